/- A part of the proof; no conditions. -/
import Derived.Test.YtgiigidgdhplfaaGreatDoorPart13
set_option linter.unusedSimpArgs false
set_option linter.unusedVariables false
set_option maxHeartbeats 64000000
set_option maxRecDepth 100000
namespace Go.Proofs.YtgiigidgdhplfaaGreatDoor
section
attribute [local congr] Go.Am.ite_cc
open Go Go.Am Go.Asm
open Go.Src (Th aF bK bg bn aS bC fe okE cZ okS dH Ex Stm)
structure ScE (p:Src.Prog) (i:Nat) (lo li:List Th) (g0 g:Nat→Nat) (ob:Obs):Prop where
 oi:ob 7=some [.d (.int .i64 (i:Nat))]
 op:ob 1=some (gw p)
 ot:ob 11=some [.mp 1013 (g0 1013) 208,.mp 2011 (g0 2011) 208]
 gs:∀i,i<3000→g i=g0 i
 mo:∃M,ob 1013=some M∧fR M lo
 mi:∃M,ob 2011=some M∧fR M li
def tn (g0:Nat→Nat):List PC:=[.ptr 11 (g0 11) 0,.ptr 5 (g0 5) 0,.ptr 7 (g0 7) 0,.ptr 1 (g0 1) 0,.ptr 6 (g0 6) 0]
def Ro (kind:Nat) (nm:Str) (args:Nat):AV:=.agg [.d (.int .i64 (kind:Nat)),.d (.str nm),.d (.int .i64 (args:Nat))]
def Ez (a b:Bool) (g:Nat→Nat) (ob:Obs) (g':Nat→Nat) (ob':Obs):Prop:=g'=g∧ob'=upd (upd ob 5 (some [.d (.bool a)])) 6 (some [.d (.bool b)])
theorem aT.use {B:Nat}{a b:Bool}{g:Nat→Nat}{ob:Obs}{s:St}{avs rs':List AV} (h:∀i,i<B→i≠5→i≠6→s.gen i=g i∧s.obj i=ob i) (ga:s.gen 5=g 5) (gb:s.gen 6=g 6) (oa:s.obj 5=some [.d (.bool a)]) (obb:s.obj 6=some [.d (.bool b)]) (hf:eE B s avs rs'):aT B [5,6] g ob (fun _ g' ob'=>Ez a b g ob g' ob') s avs:=
 aT.two h ga gb oa obb BL BL hf ⟨rfl,rfl⟩
theorem ua {B kind i args:Nat}{a b:Bool}{p:Src.Prog}{lo li:List Th}{g0 g:Nat→Nat}{ob:Obs} (hB3:3000≤B) (hB:∀i,B≤i→ob i=none) (E:ScE p i lo li g0 g ob) (hn:ob 5=some [.d (.bool a)]) (hu:ob 6=some [.d (.bool b)]) (nm:Str) (hk:kind=2∨kind=3∨kind=4)
  (hfun:∀s n,aS lo li s=some (4,n)→n<p.funcs.length) (hsz:szP p≤1000000000) :
  cB Tryz.prog 130 (Ro kind nm args::(tn g0).map iN) g ob
   (fun _ g' ob'=>Ez (a&&bC (aS lo li) i kind nm) (b&&fe (aS lo li) p.funcs i kind nm args) g ob g' ob') (fun _ _ _=>False):=by
 unfold Ro tn
 simp only[l7,v8]
 obtain⟨oi,op,ot,gs,⟨Mo,oMo,mo⟩,⟨Mi,oMi,mi⟩⟩:=E
 refine hdM B [5,6] Tryz.func130 rfl [] XQ hB fun b₀ β0 s0 w0=>?_
 have n1:∀k,(5=B+k)=False:=fun k=>by simp;omega
 have n2:∀k,(6=B+k)=False:=fun k=>by simp;omega
 have n3:∀k,(7=B+k)=False:=fun k=>by simp;omega
 have n4:∀k,(1=B+k)=False:=fun k=>by simp;omega
 have n5:∀k,(11=B+k)=False:=fun k=>by simp;omega
 have n6:∀k,(1013=B+k)=False:=fun k=>by simp;omega
 have n7:∀k,(2011=B+k)=False:=fun k=>by simp;omega
 have n8:∀k,(B+k=5)=False:=fun k=>by simp;omega
 have n9:∀k,(B+k=6)=False:=fun k=>by simp;omega
 unfold gw iX at op
 simp only[l7,v8] at op
 have g11:=gs 11 a8
 have g5:=gs 5 a8
 have g7:=gs 7 a8
 have g1:=gs 1 a8
 have g6:=gs 6 a8
 simp only[go_sem,n1,n2,n3,n4,n5,iN,ot,g11,l7,v8]
 refine bq aa rfl (by simp only[go_sem];exact LW (B:=B+60) (io:=1013) (ii:=2011) (Mo:=Mo) (Mi:=Mi) (lo:=lo) (li:=li) (fun i hi=>nt (hB i a6)) a6 a6 (by simp only[upd,n6];exact oMo) (by simp only[upd,n7];exact oMi) mo mi nm (by simp only[upd,n6];exact gs _ a8) (by simp only[upd,n7];exact gs _ a8)) ?_ ?_
 ·exact Vm
 rintro _ g' ob' ⟨rfl,rfl,rfl⟩
 have hf:=hfun nm
 obtain⟨x,hx⟩:∃x,(a&&bC (aS lo li) i kind nm)=x:=⟨_,rfl⟩
 obtain⟨y,hy⟩:∃y,(b&&fe (aS lo li) p.funcs i kind nm args)=y:=⟨_,rfl⟩
 rw[hx,hy]
 have nc2:((2:Nat):Int)=2:=rfl
 have nc3:((3:Nat):Int)=3:=rfl
 have nc4:((4:Nat):Int)=4:=rfl
 unfold bC at hx
 unfold fe at hy
 cases hfa:aS lo li nm with
 |none=>
   rw[hfa] at hx hy
   simp only[C2,L0] at hx hy
   subst hx hy
   simp only[pt]
   rcases hk with rfl|rfl|rfl
   ·cases a <;> (simp only[go_sem,n1,n2,n3,n4,n5,n8,n9,g5,hn,nc1,nc2,nc3,nc4]) <;> (refine⟨_,ab.refl _,?_⟩;(simp only[go_sem]);exact aT.use (fun i hi h5 h6=>⟨nu,nu⟩) (nu) (nu) XT XU (rs':=[]) rfl)
   ·cases a <;> (simp only[go_sem,n1,n2,n3,n4,n5,n8,n9,g5,hn,nc1,nc2,nc3,nc4]) <;> (refine⟨_,ab.refl _,?_⟩;(simp only[go_sem]);exact aT.use (fun i hi h5 h6=>⟨nu,nu⟩) (nu) (nu) XT XU (rs':=[]) rfl)
   ·(simp only[go_sem,n1,n2,n3,n4,n5,n8,n9,g5,hn,nc1,nc2,nc3,nc4]) <;> (refine⟨_,ab.refl _,?_⟩;(simp only[go_sem]);exact aT.use (fun i hi h5 h6=>⟨nu,nu⟩) (nu) (nu) XT XU (rs':=[]) rfl)
 |some t=>
   obtain⟨k,n⟩:=t
   rw[hfa] at hf hx hy
   simp only at hx hy
   simp only[pt,thD,l7,v8]
   rcases hk with rfl|rfl|rfl
   ·rw[if_neg a7,L0] at hy
    subst hy
    rw[if_pos rfl] at hx
    by_cases k1:(k:Int)=1
    ·obtain rfl:a=x:=by rw[←hx,show (k==1)=true by simp;omega];simp
     cases a <;> (simp only[go_sem,n1,n2,n3,n4,n5,n8,n9,g5,hn,nc1,nc2,nc3,nc4,k1]) <;> (refine⟨_,ab.refl _,?_⟩;(simp only[go_sem]);exact aT.use (fun i hi h5 h6=>⟨nu,nu⟩) (nu) (nu) XT XU (rs':=[]) rfl)
    by_cases k2:(k:Int)=2
    ·obtain rfl:a=x:=by rw[←hx,show (k==2)=true by simp;omega];simp
     cases a <;> (simp only[go_sem,n1,n2,n3,n4,n5,n8,n9,g5,hn,nc1,nc2,nc3,nc4,k1,k2]) <;> (refine⟨_,ab.refl _,?_⟩;(simp only[go_sem]);exact aT.use (fun i hi h5 h6=>⟨nu,nu⟩) (nu) (nu) XT XU (rs':=[]) rfl)
    obtain rfl:false=x:=by rw[←hx,show (k==1)=false by simp;omega,show (k==2)=false by simp;omega];simp
    cases a <;> (simp only[go_sem,n1,n2,n3,n4,n5,n8,n9,g5,hn,nc1,nc2,nc3,nc4,k1,k2]) <;> (refine⟨_,ab.refl _,?_⟩;(simp only[go_sem]);exact aT.use (fun i hi h5 h6=>⟨nu,nu⟩) (nu) (nu) XT XU (rs':=[]) rfl)
   ·rw[if_neg a7,L0] at hy
    subst hy
    rw[if_neg a8,if_pos rfl] at hx
    by_cases k1:(k:Int)=3
    ·obtain rfl:a=x:=by rw[←hx,show (k==3)=true by simp;omega];simp
     cases a <;> (simp only[go_sem,n1,n2,n3,n4,n5,n8,n9,g5,hn,nc1,nc2,nc3,nc4,k1]) <;> (refine⟨_,ab.refl _,?_⟩;(simp only[go_sem]);exact aT.use (fun i hi h5 h6=>⟨nu,nu⟩) (nu) (nu) XT XU (rs':=[]) rfl)
    obtain rfl:false=x:=by rw[←hx,show (k==3)=false by simp;omega];simp
    cases a <;> (simp only[go_sem,n1,n2,n3,n4,n5,n8,n9,g5,hn,nc1,nc2,nc3,nc4,k1]) <;> (refine⟨_,ab.refl _,?_⟩;(simp only[go_sem]);exact aT.use (fun i hi h5 h6=>⟨nu,nu⟩) (nu) (nu) XT XU (rs':=[]) rfl)
   ·rw[if_neg a8,if_neg a8] at hx
    by_cases k1:(k:Int)=4
    case neg=>
     rw[if_neg a6,L0] at hy
     subst hy
     obtain rfl:false=x:=by rw[←hx,show (k==4)=false by simp;omega];simp
     (simp only[go_sem,n1,n2,n3,n4,n5,n8,n9,g5,hn,nc1,nc2,nc3,nc4,k1]) <;> (refine⟨_,ab.refl _,?_⟩;(simp only[go_sem]);exact aT.use (fun i hi h5 h6=>⟨nu,nu⟩) (nu) (nu) XT XU (rs':=[]) rfl)
    by_cases hni:n<i
    case neg=>
     have hni2:(i:Int)≤(n:Int):=a6
     rw[if_neg a6,L0] at hy
     subst hy
     obtain rfl:false=x:=by rw[←hx,y9 hni];simp
     (simp only[go_sem,n1,n2,n3,n4,n5,n8,n9,g5,hn,nc1,nc2,nc3,nc4,k1,oi,g7,hni2]) <;> (refine⟨_,ab.refl _,?_⟩;(simp only[go_sem]);exact aT.use (fun i hi h5 h6=>⟨nu,nu⟩) (nu) (nu) XT XU (rs':=[]) rfl)
    have hni2:¬(i:Int)≤(n:Int):=a6
    obtain rfl:a=x:=by rw[←hx,E0 hni,show (k==4)=true by simp;omega];simp
    have hnl:=hf n (by rw[show k=4 by omega])
    obtain⟨fn,he⟩:=getq hnl
    rw[if_pos ⟨rfl,a6,hni⟩,he] at hy
    simp only at hy
    have hn0:(0:Int)≤(n:Int):=a6
    have hnl2:(n:Int)<(p.funcs.length:Int):=a6
    (simp only[go_sem,n1,n2,n3,n4,n5,n8,n9,g5,hn,nc1,nc2,nc3,nc4,k1,oi,g7,hni2])
    refine aJ b9 ?_
    by_cases hpl:(fn.params.length:Int)=(args:Int)
    ·obtain rfl:b=y:=by rw[←hy,show (fn.params.length==args)=true by simp;omega];simp
     (simp only[go_sem,n1,n2,n3,n4,n5,n8,n9,g5,hn,nc1,nc2,nc3,nc4,k1,oi,g7,hni2,g1,op,hn0,hnl2,he,fnD,j5,hpl]) <;> (refine⟨_,ab.refl _,?_⟩;(simp only[go_sem]);exact aT.use (fun i hi h5 h6=>⟨nu,nu⟩) (nu) (nu) XT XU (rs':=[]) rfl)
    obtain rfl:false=y:=by rw[←hy,show (fn.params.length==args)=false by simp;omega];simp
    (simp only[go_sem,n1,n2,n3,n4,n5,n8,n9,g5,hn,nc1,nc2,nc3,nc4,k1,oi,g7,hni2,g1,g6,op,hn0,hnl2,he,fnD,j5,hpl,hu]) <;> (refine⟨_,ab.refl _,?_⟩;(simp only[go_sem]);exact aT.use (fun i hi h5 h6=>⟨nu,nu⟩) (nu) (nu) XT XU (rs':=[]) rfl)
end
section
attribute [local congr] Go.Am.ite_cc
open Go Go.Am Go.Asm
open Go.Src (Th aF bK bg bn aS bC fe okE cZ okS dH Ex Stm szE bF szS bu)
section
structure EA (p:Src.Prog) (i:Nat) (lo li:List Th) (g0:Nat→Nat) (dc xc x3 x5:Nat) (g:Nat→Nat) (ob:Obs):Prop where
 e:ScE p i lo li g0 g ob
 od:ob dc=some [.clo 130 (tn g0)]
 ox:ob xc=some [.clo 182 [.ptr dc x3 0,.ptr xc x5 0]]
 gd:g dc=x3
 gx:g xc=x5
variable {p:Src.Prog}{lo li:List Th}
theorem ScE.mono{i:Nat}{g0 g g':Nat→Nat}{ob ob':Obs} (h:ScE p i lo li g0 g ob) (hs:∀j,j<3000→g' j=g j∧(j≠5→j≠6→ob' j=ob j)):ScE p i lo li g0 g' ob' where
 oi:=by rw[(hs 7 a8).2 a8 a8];exact h.oi
 op:=by rw[(hs 1 a8).2 a8 a8];exact h.op
 ot:=by rw[(hs 11 a8).2 a8 a8];exact h.ot
 gs:=fun j hj=>by rw[(hs j hj).1];exact h.gs j hj
 mo:=by rw[(hs 1013 a8).2 a8 a8];exact h.mo
 mi:=by rw[(hs 2011 a8).2 a8 a8];exact h.mi
theorem EA.mono {p:Src.Prog}{i dc xc x3 x5 B:Nat}{lo li:List Th}{g0 g g':Nat→Nat}{ob ob':Obs} (h:EA p i lo li g0 dc xc x3 x5 g ob) (hd:3000≤dc) (hx:3000≤xc) (hdB:dc<B) (hxB:xc<B) (hs:∀j,j<B→g' j=g j∧(j≠5→j≠6→ob' j=ob j)):EA p i lo li g0 dc xc x3 x5 g' ob' where
 e:=h.e.mono fun j hj=>hs j a6
 od:=by rw[(hs dc a6).2 a6 a6];exact h.od
 ox:=by rw[(hs xc a6).2 a6 a6];exact h.ox
 gd:=by rw[(hs dc a6).1];exact h.gd
 gx:=by rw[(hs xc a6).1];exact h.gx
def nU (p:Src.Prog) (i:Nat) (lo li:List Th):Nat→Str→Nat→Bool:=fun k n _=>bC (aS lo li) i k n
def mU (p:Src.Prog) (i:Nat) (lo li:List Th):Nat→Str→Nat→Bool:=fun k n a=>fe (aS lo li) p.funcs i k n a
theorem qM{i dc xc x3 x5:Nat}{g0:Nat→Nat} (hd:3000≤dc) (hx:3000≤xc) (hfun:∀s n,aS lo li s=some (4,n)→n<p.funcs.length) (hsz:szP p≤1000000000) :
  ∀(N:Nat) (l:List Ex),bF l≤N→N≤1000000000→∀(B:Nat) (a b:Bool) (g:Nat→Nat) (ob:Obs),dc<B→xc<B→(∀i,B≤i→ob i=none)→EA p i lo li g0 dc xc x3 x5 g ob→ob 5=some [.d (.bool a)]→ob 6=some [.d (.bool b)]→
   cB Tryz.prog 182 [jd l,.one (.ptr dc x3 0),.one (.ptr xc x5 0)] g ob (fun _ g' ob'=>Ez (a&&cZ (nU p i lo li) l) (b&&cZ (mU p i lo li) l) g ob g' ob') (fun _ _ _=>False):=by
 intro N
 induction N using Nat.strongRecOn with
 |ind N ih=>
 intro l hszl hN B a b g ob hdB hxB hB E hn hu
 refine hdM B [5,6] Tryz.func182 rfl [] XQ hB fun b₀ β0 s0 w0=>?_
 have n1:∀k,(5=B+k)=False:=fun k=>by simp;omega
 have n2:∀k,(6=B+k)=False:=fun k=>by simp;omega
 have n3:∀k,(dc=B+k)=False:=fun k=>by simp;omega
 have n4:∀k,(xc=B+k)=False:=fun k=>by simp;omega
 have n8:∀k,(B+k=5)=False:=fun k=>by simp;omega
 have n9:∀k,(B+k=6)=False:=fun k=>by simp;omega
 have z0:(B=0)=False:=by simp;omega
 have z1:(B=1)=False:=by simp;omega
 have m1:(xc=5)=False:=by simp;omega
 have m2:(xc=6)=False:=by simp;omega
 have m3:(dc=5)=False:=by simp;omega
 have m4:(dc=6)=False:=by simp;omega
 obtain⟨x,hx0⟩:∃x,(a&&cZ (nU p i lo li) l)=x:=⟨_,rfl⟩
 obtain⟨y,hy0⟩:∃y,(b&&cZ (mU p i lo li) l)=y:=⟨_,rfl⟩
 rw[hx0,hy0]
 have hll:=Src.FZ l
 unfold jd
 simp only[go_sem,j5]
 refine ai (fun m st=>∃(k:Nat) (a' b':Bool),m+k=l.length∧(a'&&cZ (nU p i lo li) (l.drop k))=x∧(b'&&cZ (mU p i lo li) (l.drop k))=y∧st.f 1=.one (.ptr dc x3 0)∧st.f 2=.one (.ptr xc x5 0)∧st.f 6=.one (.d (.sl (l.map exD)))∧st.f 7=iv .i64 l.length∧st.f 8=iv .i64 k∧
   st.obj 5=some [.d (.bool a')]∧st.obj 6=some [.d (.bool b')]∧(∀j,j<B→st.gen j=g j∧(j≠5→j≠6→st.obj j=ob j))∧(∀j,B+43≤j→st.obj j=none)) l.length ?_ ?_
 ·exact Xd
 rintro m f g1 ob1 ⟨k,a',b',hk,hxa,hyb,q1,q2,q6,q7,q8,o5,o6,fr,hfr⟩
 simp only at q1 q2 q6 q7 q8 o5 o6 fr hfr
 have E1:=E.mono hd hx hdB hxB fr
 obtain⟨e1,od,ox,gd,gx⟩:=E1
 have hw:=ah (k:=k) a6
 by_cases hlt:k<l.length
 case neg=>
  have hki:¬(k:Int)<(l.length:Int):=a6
  obtain rfl:k=l.length:=a6
  rw[E3,cZ,L0] at hxa hyb
  subst hxa hyb
  simp only[go_sem,q7,q8,hki]
  exact WG
 have hki:(k:Int)<(l.length:Int):=a6
 have hk0:(0:Int)≤(k:Int):=a6
 obtain⟨e,he⟩:=getq hlt
 have hsze:=Src.Jq (l6 he)
 have hdr:l.drop k=e::l.drop (k+1):=by rw[A0 hlt,(l4.1 he).2]
 rw[hdr,cZ] at hxa hyb
 obtain⟨kind,op,num,name,kids⟩:=e
 rw[okE] at hxa hyb
 rw[szE] at hsze
 simp only[go_sem,n1,n2,n3,n4,q1,q2,q6,q7,q8,hki,hk0,he,exD,aZ]
 by_cases k2:kind=2
 ·rw[if_pos k2] at hxa hyb
  simp only[go_sem,n1,n2,n3,n4,n8,n9,q1,q2,od,gd,s5 k2]
  refine aH (f:=130) (caps:=tn g0) aa rfl XP (by simp only[go_sem];exact ua (B:=B+43) (kind:=2) (args:=0) (a:=a') (b:=b') a6 (fun j hj=>nt (hfr j hj)) (e1.mono fun j hj=>⟨nu,fun h5 h6=>nu⟩) (nt (o5)) (nt (o6)) name a7 hfun hsz) ?_ ?_
  ·exact Vm
  rintro _ g' ob' ⟨rfl,rfl⟩
  simp only[go_sem,n1,n2,n3,n4,n8,n9,z0,z1,m1,m2,m3,m4,q1,q2,gd,gx,od,ox]
  refine aH (f:=182) (caps:=[.ptr dc x3 0,.ptr xc x5 0]) aa rfl XP (by simp only[go_sem];refine ih (bF kids) a6 kids (l0 _) a6 (B+43) (a'&&bC (aS lo li) i 2 name) (b'&&fe (aS lo li) p.funcs i 2 name 0) _ _ a6 a6 ?_ ?_ ?_ ?_;exact(fun j hj=>nt (hfr j hj));exact(((E.mono hd hx hdB hxB fr).mono hd hx hdB hxB (fun j hj=>⟨nu,fun h5 h6=>nu⟩)));exact(XR);exact(XR)) ?_ ?_
  ·exact Vm
  rintro _ g' ob' ⟨rfl,rfl⟩
  simp only[go_sem,q8,hw]
  refine ae (m-1) a6 ⟨k+1,(a'&&bC (aS lo li) i 2 name)&&cZ (nU p i lo li) kids,(b'&&fe (aS lo li) p.funcs i 2 name 0)&&cZ (mU p i lo li) kids,a6,by rw[←hxa];simp only[nU,D3],by rw[←hyb];simp only[mU,D3],?_⟩
  exact W9
 by_cases k3:kind=3
 ·rw[if_neg k2,if_pos k3] at hxa hyb
  simp only[go_sem,n1,n2,n3,n4,n8,n9,q1,q2,od,gd,s5 k3,k2]
  refine aH (f:=130) (caps:=tn g0) aa rfl XP (by simp only[go_sem];exact ua (B:=B+43) (kind:=3) (args:=0) (a:=a') (b:=b') a6 (fun j hj=>nt (hfr j hj)) (e1.mono fun j hj=>⟨nu,fun h5 h6=>nu⟩) (nt (o5)) (nt (o6)) name a7 hfun hsz) ?_ ?_
  ·exact Vm
  rintro _ g' ob' ⟨rfl,rfl⟩
  simp only[go_sem,n1,n2,n3,n4,n8,n9,z0,z1,m1,m2,m3,m4,q1,q2,gd,gx,od,ox]
  refine aH (f:=182) (caps:=[.ptr dc x3 0,.ptr xc x5 0]) aa rfl XP (by simp only[go_sem];refine ih (bF kids) a6 kids (l0 _) a6 (B+43) (a'&&bC (aS lo li) i 3 name) (b'&&fe (aS lo li) p.funcs i 3 name 0) _ _ a6 a6 ?_ ?_ ?_ ?_;exact(fun j hj=>nt (hfr j hj));exact(((E.mono hd hx hdB hxB fr).mono hd hx hdB hxB (fun j hj=>⟨nu,fun h5 h6=>nu⟩)));exact(XR);exact(XR)) ?_ ?_
  ·exact Vm
  rintro _ g' ob' ⟨rfl,rfl⟩
  simp only[go_sem,q8,hw]
  refine ae (m-1) a6 ⟨k+1,(a'&&bC (aS lo li) i 3 name)&&cZ (nU p i lo li) kids,(b'&&fe (aS lo li) p.funcs i 3 name 0)&&cZ (mU p i lo li) kids,a6,by rw[←hxa];simp only[nU,D3],by rw[←hyb];simp only[mU,D3],?_⟩
  exact W9
 by_cases k4:kind=4
 ·rw[if_neg k2,if_neg k3,if_pos k4] at hxa hyb
  simp only[go_sem,n1,n2,n3,n4,n8,n9,q1,q2,od,gd,s5 k4,k2,k3,j5]
  refine aH (f:=130) (caps:=tn g0) aa rfl XP (by simp only[go_sem];exact ua (B:=B+43) (kind:=4) (args:=kids.length) (a:=a') (b:=b') a6 (fun j hj=>nt (hfr j hj)) (e1.mono fun j hj=>⟨nu,fun h5 h6=>nu⟩) (nt (o5)) (nt (o6)) name a7 hfun hsz) ?_ ?_
  ·exact Vm
  rintro _ g' ob' ⟨rfl,rfl⟩
  simp only[go_sem,n1,n2,n3,n4,n8,n9,z0,z1,m1,m2,m3,m4,q1,q2,gd,gx,od,ox]
  refine aH (f:=182) (caps:=[.ptr dc x3 0,.ptr xc x5 0]) aa rfl XP (by simp only[go_sem];refine ih (bF kids) a6 kids (l0 _) a6 (B+43) (a'&&bC (aS lo li) i 4 name) (b'&&fe (aS lo li) p.funcs i 4 name kids.length) _ _ a6 a6 ?_ ?_ ?_ ?_;exact(fun j hj=>nt (hfr j hj));exact(((E.mono hd hx hdB hxB fr).mono hd hx hdB hxB (fun j hj=>⟨nu,fun h5 h6=>nu⟩)));exact(XR);exact(XR)) ?_ ?_
  ·exact Vm
  rintro _ g' ob' ⟨rfl,rfl⟩
  simp only[go_sem,q8,hw]
  refine ae (m-1) a6 ⟨k+1,(a'&&bC (aS lo li) i 4 name)&&cZ (nU p i lo li) kids,(b'&&fe (aS lo li) p.funcs i 4 name kids.length)&&cZ (mU p i lo li) kids,a6,by rw[←hxa];simp only[nU,D3],by rw[←hyb];simp only[mU,D3],?_⟩
  exact W9
 ·rw[if_neg k2,if_neg k3,if_neg k4] at hxa hyb
  simp only[go_sem,k2,k3,k4]
  simp only[go_sem,n1,n2,n3,n4,n8,n9,z0,z1,m1,m2,m3,m4,q1,q2,gd,gx,od,ox]
  refine aH (f:=182) (caps:=[.ptr dc x3 0,.ptr xc x5 0]) aa rfl XP (by simp only[go_sem];refine ih (bF kids) a6 kids (l0 _) a6 (B+43) a' b' _ _ a6 a6 ?_ ?_ ?_ ?_;exact(fun j hj=>nt (hfr j hj));exact(((E.mono hd hx hdB hxB fr).mono hd hx hdB hxB (fun j hj=>⟨nu,fun h5 h6=>nu⟩)));exact(nt (o5));exact(nt (o6))) ?_ ?_
  ·exact Vm
  rintro _ g' ob' ⟨rfl,rfl⟩
  simp only[go_sem,q8,hw]
  refine ae (m-1) a6 ⟨k+1,a'&&cZ (nU p i lo li) kids,b'&&cZ (mU p i lo li) kids,a6,by rw[←hxa];simp only[w7,D3],by rw[←hyb];simp only[w7,D3],?_⟩
  exact W9
end
structure HO (p:Src.Prog) (i:Nat) (lo li:List Th) (g0:Nat→Nat) (dc xc sc x3 x5 x4:Nat) (g:Nat→Nat) (ob:Obs):Prop where
 v:EA p i lo li g0 dc xc x3 x5 g ob
 os:ob sc=some [.clo 183 [.ptr dc x3 0,.ptr xc x5 0,.ptr sc x4 0]]
 gs:g sc=x4
theorem HO.mono {p:Src.Prog}{i dc xc sc x3 x5 x4 B:Nat}{lo li:List Th}{g0 g g':Nat→Nat}{ob ob':Obs} (h:HO p i lo li g0 dc xc sc x3 x5 x4 g ob) (hd:3000≤dc) (hx:3000≤xc) (hs:3000≤sc) (hdB:dc<B) (hxB:xc<B) (hsB:sc<B) (hf:∀j,j<B→g' j=g j∧(j≠5→j≠6→ob' j=ob j)):HO p i lo li g0 dc xc sc x3 x5 x4 g' ob' where
 v:=h.v.mono hd hx hdB hxB hf
 os:=by rw[(hf sc a6).2 a6 a6];exact h.os
 gs:=by rw[(hf sc a6).1];exact h.gs
theorem HP {p:Src.Prog}{i dc xc sc x3 x5 x4:Nat}{lo li:List Th}{g0:Nat→Nat} (hd:3000≤dc) (hx:3000≤xc) (hs:3000≤sc) (hfun:∀s n,aS lo li s=some (4,n)→n<p.funcs.length) (hsz:szP p≤1000000000) :
  ∀(N:Nat) (l:List Stm),bu l≤N→N≤1000000000→∀(B:Nat) (a b:Bool) (g:Nat→Nat) (ob:Obs),dc<B→xc<B→sc<B→(∀i,B≤i→ob i=none)→HO p i lo li g0 dc xc sc x3 x5 x4 g ob→ob 5=some [.d (.bool a)]→ob 6=some [.d (.bool b)]→
   cB Tryz.prog 183 [jy l,.one (.ptr dc x3 0),.one (.ptr xc x5 0),.one (.ptr sc x4 0)] g ob (fun _ g' ob'=>Ez (a&&dH (nU p i lo li) l) (b&&dH (mU p i lo li) l) g ob g' ob') (fun _ _ _=>False):=by
 intro N
 induction N using Nat.strongRecOn with
 |ind N ih=>
 intro l hszl hN B a b g ob hdB hxB hsB hB E hn hu
 refine hdM B [5,6] Tryz.func183 rfl [] XQ hB fun b₀ β0 s0 w0=>?_
 have n1:∀k,(5=B+k)=False:=fun k=>by simp;omega
 have n2:∀k,(6=B+k)=False:=fun k=>by simp;omega
 have n3:∀k,(dc=B+k)=False:=fun k=>by simp;omega
 have n4:∀k,(xc=B+k)=False:=fun k=>by simp;omega
 have n5:∀k,(sc=B+k)=False:=fun k=>by simp;omega
 have n8:∀k,(B+k=5)=False:=fun k=>by simp;omega
 have n9:∀k,(B+k=6)=False:=fun k=>by simp;omega
 have z0:(B=0)=False:=by simp;omega
 have z1:(B=1)=False:=by simp;omega
 have m1:(xc=5)=False:=by simp;omega
 have m2:(xc=6)=False:=by simp;omega
 have m3:(dc=5)=False:=by simp;omega
 have m4:(dc=6)=False:=by simp;omega
 have m5:(sc=5)=False:=by simp;omega
 have m6:(sc=6)=False:=by simp;omega
 obtain⟨x,hx0⟩:∃x,(a&&dH (nU p i lo li) l)=x:=⟨_,rfl⟩
 obtain⟨y,hy0⟩:∃y,(b&&dH (mU p i lo li) l)=y:=⟨_,rfl⟩
 rw[hx0,hy0]
 have hll:=Src.Ga l
 unfold jy
 simp only[go_sem,j5]
 refine ai (fun m st=>∃(k:Nat) (a' b':Bool),m+k=l.length∧(a'&&dH (nU p i lo li) (l.drop k))=x∧(b'&&dH (mU p i lo li) (l.drop k))=y∧st.f 1=.one (.ptr dc x3 0)∧st.f 2=.one (.ptr xc x5 0)∧st.f 3=.one (.ptr sc x4 0)∧st.f 7=.one (.d (.sl (l.map smD)))∧st.f 8=iv .i64 l.length∧st.f 9=iv .i64 k∧
   st.obj 5=some [.d (.bool a')]∧st.obj 6=some [.d (.bool b')]∧(∀j,j<B→st.gen j=g j∧(j≠5→j≠6→st.obj j=ob j))∧(∀j,B+52≤j→st.obj j=none)) l.length ?_ ?_
 ·exact Xd
 rintro m f g1 ob1 ⟨k,a',b',hk,hxa,hyb,q1,q2,q3,q7,q8,q9,o5,o6,fr,hfr⟩
 simp only at q1 q2 q3 q7 q8 q9 o5 o6 fr hfr
 have E1:=E.mono hd hx hs hdB hxB hsB fr
 have E2:=E1
 obtain⟨⟨e1,od,ox,gd,gx⟩,os,gs⟩:=E2
 have hw:=ah (k:=k) a6
 by_cases hlt:k<l.length
 case neg=>
  have hki:¬(k:Int)<(l.length:Int):=a6
  obtain rfl:k=l.length:=a6
  rw[E3,dH,L0] at hxa hyb
  subst hxa hyb
  simp only[go_sem,q8,q9,hki]
  exact WG
 have hki:(k:Int)<(l.length:Int):=a6
 have hk0:(0:Int)≤(k:Int):=a6
 obtain⟨e,he⟩:=getq hlt
 have hsze:=Src.Jr (l6 he)
 have hdr:l.drop k=e::l.drop (k+1):=by rw[A0 hlt,(l4.1 he).2]
 rw[hdr,dH] at hxa hyb
 obtain⟨kind,name,es,th,el⟩:=e
 rw[okS] at hxa hyb
 rw[szS] at hsze
 have hE:smD (.mk kind name es th el)=[.int .i64 kind,.str name,.sl (es.map exD),.sl (th.map smD),.sl (el.map smD)]:=by simp only[smD,aZ,ft]
 simp only[go_sem,n1,n2,n3,n4,n5,q1,q2,q3,q7,q8,q9,hki,hk0,he,hE]
 by_cases k1:kind=1
 ·rw[if_pos k1] at hxa hyb
  simp only[go_sem,n1,n2,n3,n4,n5,n8,n9,z0,z1,m1,m2,m3,m4,m5,m6,q1,q2,q3,od,ox,os,gd,gx,gs,s5 k1]
  refine aH (f:=130) (caps:=tn g0) aa rfl XP (by simp only[go_sem];exact ua (B:=B+52) (kind:=2) (args:=0) (a:=a') (b:=b') a6 (fun j hj=>nt (hfr j hj)) (e1.mono fun j hj=>⟨nu,fun h5 h6=>nu⟩) (nt (o5)) (nt (o6)) name a7 hfun hsz) ?_ ?_
  ·exact Vm
  rintro _ g' ob' ⟨rfl,rfl⟩
  simp only[go_sem,n1,n2,n3,n4,n5,n8,n9,z0,z1,m1,m2,m3,m4,m5,m6,q1,q2,q3,od,ox,os,gd,gx,gs,k1]
  refine aH (f:=182) (caps:=[.ptr dc x3 0,.ptr xc x5 0]) aa rfl XP (by simp only[go_sem];refine qM (i:=i) (g0:=g0) hd hx hfun hsz (bF es) es (l0 _) a6 (B+52) (a'&&bC (aS lo li) i 2 name) (b'&&fe (aS lo li) p.funcs i 2 name 0) _ _ a6 a6 ?_ ?_ ?_ ?_;exact(fun j hj=>nt (hfr j hj));exact(E1.mono hd hx hs hdB hxB hsB (fun j hj=>⟨nu,fun h5 h6=>nu⟩)).v;exact XR;exact XR) ?_ ?_
  ·exact Vm
  rintro _ g' ob' ⟨rfl,rfl⟩
  simp only[go_sem,n1,n2,n3,n4,n5,n8,n9,z0,z1,m1,m2,m3,m4,m5,m6,q1,q2,q3,od,ox,os,gd,gx,gs]
  refine aH (f:=183) (caps:=[.ptr dc x3 0,.ptr xc x5 0,.ptr sc x4 0]) aa rfl XP (by simp only[go_sem];refine ih (bu th) a6 th (l0 _) a6 (B+52) ((a'&&bC (aS lo li) i 2 name)&&cZ (nU p i lo li) es) ((b'&&fe (aS lo li) p.funcs i 2 name 0)&&cZ (mU p i lo li) es) _ _ a6 a6 a6 ?_ ?_ ?_ ?_;exact(fun j hj=>nt (hfr j hj));exact(E1.mono hd hx hs hdB hxB hsB (fun j hj=>⟨nu,fun h5 h6=>nu⟩));exact XR;exact XR) ?_ ?_
  ·exact Vm
  rintro _ g' ob' ⟨rfl,rfl⟩
  simp only[go_sem,n1,n2,n3,n4,n5,n8,n9,z0,z1,m1,m2,m3,m4,m5,m6,q1,q2,q3,od,ox,os,gd,gx,gs]
  refine aH (f:=183) (caps:=[.ptr dc x3 0,.ptr xc x5 0,.ptr sc x4 0]) aa rfl XP (by simp only[go_sem];refine ih (bu el) a6 el (l0 _) a6 (B+52) (((a'&&bC (aS lo li) i 2 name)&&cZ (nU p i lo li) es)&&dH (nU p i lo li) th) (((b'&&fe (aS lo li) p.funcs i 2 name 0)&&cZ (mU p i lo li) es)&&dH (mU p i lo li) th) _ _ a6 a6 a6 ?_ ?_ ?_ ?_;exact(fun j hj=>nt (hfr j hj));exact(E1.mono hd hx hs hdB hxB hsB (fun j hj=>⟨nu,fun h5 h6=>nu⟩));exact XR;exact XR) ?_ ?_
  ·exact Vm
  rintro _ g' ob' ⟨rfl,rfl⟩
  simp only[go_sem,q9,hw]
  refine ae (m-1) a6 ⟨k+1,(((a'&&bC (aS lo li) i 2 name)&&cZ (nU p i lo li) es)&&dH (nU p i lo li) th)&&dH (nU p i lo li) el,(((b'&&fe (aS lo li) p.funcs i 2 name 0)&&cZ (mU p i lo li) es)&&dH (mU p i lo li) th)&&dH (mU p i lo li) el,a6,by rw[←hxa];simp only[nU,D3],by rw[←hyb];simp only[mU,D3],?_⟩
  exact W0
 by_cases k2:kind=2
 ·rw[if_neg k1,if_pos k2] at hxa hyb
  simp only[go_sem,n1,n2,n3,n4,n5,n8,n9,z0,z1,m1,m2,m3,m4,m5,m6,q1,q2,q3,od,ox,os,gd,gx,gs,s5 k2,k1]
  refine aH (f:=130) (caps:=tn g0) aa rfl XP (by simp only[go_sem];exact ua (B:=B+52) (kind:=3) (args:=0) (a:=a') (b:=b') a6 (fun j hj=>nt (hfr j hj)) (e1.mono fun j hj=>⟨nu,fun h5 h6=>nu⟩) (nt (o5)) (nt (o6)) name a7 hfun hsz) ?_ ?_
  ·exact Vm
  rintro _ g' ob' ⟨rfl,rfl⟩
  simp only[go_sem,n1,n2,n3,n4,n5,n8,n9,z0,z1,m1,m2,m3,m4,m5,m6,q1,q2,q3,od,ox,os,gd,gx,gs,k1]
  refine aH (f:=182) (caps:=[.ptr dc x3 0,.ptr xc x5 0]) aa rfl XP (by simp only[go_sem];refine qM (i:=i) (g0:=g0) hd hx hfun hsz (bF es) es (l0 _) a6 (B+52) (a'&&bC (aS lo li) i 3 name) (b'&&fe (aS lo li) p.funcs i 3 name 0) _ _ a6 a6 ?_ ?_ ?_ ?_;exact(fun j hj=>nt (hfr j hj));exact(E1.mono hd hx hs hdB hxB hsB (fun j hj=>⟨nu,fun h5 h6=>nu⟩)).v;exact XR;exact XR) ?_ ?_
  ·exact Vm
  rintro _ g' ob' ⟨rfl,rfl⟩
  simp only[go_sem,n1,n2,n3,n4,n5,n8,n9,z0,z1,m1,m2,m3,m4,m5,m6,q1,q2,q3,od,ox,os,gd,gx,gs]
  refine aH (f:=183) (caps:=[.ptr dc x3 0,.ptr xc x5 0,.ptr sc x4 0]) aa rfl XP (by simp only[go_sem];refine ih (bu th) a6 th (l0 _) a6 (B+52) ((a'&&bC (aS lo li) i 3 name)&&cZ (nU p i lo li) es) ((b'&&fe (aS lo li) p.funcs i 3 name 0)&&cZ (mU p i lo li) es) _ _ a6 a6 a6 ?_ ?_ ?_ ?_;exact(fun j hj=>nt (hfr j hj));exact(E1.mono hd hx hs hdB hxB hsB (fun j hj=>⟨nu,fun h5 h6=>nu⟩));exact XR;exact XR) ?_ ?_
  ·exact Vm
  rintro _ g' ob' ⟨rfl,rfl⟩
  simp only[go_sem,n1,n2,n3,n4,n5,n8,n9,z0,z1,m1,m2,m3,m4,m5,m6,q1,q2,q3,od,ox,os,gd,gx,gs]
  refine aH (f:=183) (caps:=[.ptr dc x3 0,.ptr xc x5 0,.ptr sc x4 0]) aa rfl XP (by simp only[go_sem];refine ih (bu el) a6 el (l0 _) a6 (B+52) (((a'&&bC (aS lo li) i 3 name)&&cZ (nU p i lo li) es)&&dH (nU p i lo li) th) (((b'&&fe (aS lo li) p.funcs i 3 name 0)&&cZ (mU p i lo li) es)&&dH (mU p i lo li) th) _ _ a6 a6 a6 ?_ ?_ ?_ ?_;exact(fun j hj=>nt (hfr j hj));exact(E1.mono hd hx hs hdB hxB hsB (fun j hj=>⟨nu,fun h5 h6=>nu⟩));exact XR;exact XR) ?_ ?_
  ·exact Vm
  rintro _ g' ob' ⟨rfl,rfl⟩
  simp only[go_sem,q9,hw]
  refine ae (m-1) a6 ⟨k+1,(((a'&&bC (aS lo li) i 3 name)&&cZ (nU p i lo li) es)&&dH (nU p i lo li) th)&&dH (nU p i lo li) el,(((b'&&fe (aS lo li) p.funcs i 3 name 0)&&cZ (mU p i lo li) es)&&dH (mU p i lo li) th)&&dH (mU p i lo li) el,a6,by rw[←hxa];simp only[nU,D3],by rw[←hyb];simp only[mU,D3],?_⟩
  exact W0
 by_cases k6:kind=6
 ·rw[if_neg k1,if_neg k2,if_pos k6] at hxa hyb
  simp only[go_sem,n1,n2,n3,n4,n5,n8,n9,z0,z1,m1,m2,m3,m4,m5,m6,q1,q2,q3,od,ox,os,gd,gx,gs,s5 k6,k1,k2,j5]
  refine aH (f:=130) (caps:=tn g0) aa rfl XP (by simp only[go_sem];exact ua (B:=B+52) (kind:=4) (args:=es.length) (a:=a') (b:=b') a6 (fun j hj=>nt (hfr j hj)) (e1.mono fun j hj=>⟨nu,fun h5 h6=>nu⟩) (nt (o5)) (nt (o6)) name a7 hfun hsz) ?_ ?_
  ·exact Vm
  rintro _ g' ob' ⟨rfl,rfl⟩
  simp only[go_sem,n1,n2,n3,n4,n5,n8,n9,z0,z1,m1,m2,m3,m4,m5,m6,q1,q2,q3,od,ox,os,gd,gx,gs,k1]
  refine aH (f:=182) (caps:=[.ptr dc x3 0,.ptr xc x5 0]) aa rfl XP (by simp only[go_sem];refine qM (i:=i) (g0:=g0) hd hx hfun hsz (bF es) es (l0 _) a6 (B+52) (a'&&bC (aS lo li) i 4 name) (b'&&fe (aS lo li) p.funcs i 4 name es.length) _ _ a6 a6 ?_ ?_ ?_ ?_;exact(fun j hj=>nt (hfr j hj));exact(E1.mono hd hx hs hdB hxB hsB (fun j hj=>⟨nu,fun h5 h6=>nu⟩)).v;exact XR;exact XR) ?_ ?_
  ·exact Vm
  rintro _ g' ob' ⟨rfl,rfl⟩
  simp only[go_sem,n1,n2,n3,n4,n5,n8,n9,z0,z1,m1,m2,m3,m4,m5,m6,q1,q2,q3,od,ox,os,gd,gx,gs]
  refine aH (f:=183) (caps:=[.ptr dc x3 0,.ptr xc x5 0,.ptr sc x4 0]) aa rfl XP (by simp only[go_sem];refine ih (bu th) a6 th (l0 _) a6 (B+52) ((a'&&bC (aS lo li) i 4 name)&&cZ (nU p i lo li) es) ((b'&&fe (aS lo li) p.funcs i 4 name es.length)&&cZ (mU p i lo li) es) _ _ a6 a6 a6 ?_ ?_ ?_ ?_;exact(fun j hj=>nt (hfr j hj));exact(E1.mono hd hx hs hdB hxB hsB (fun j hj=>⟨nu,fun h5 h6=>nu⟩));exact XR;exact XR) ?_ ?_
  ·exact Vm
  rintro _ g' ob' ⟨rfl,rfl⟩
  simp only[go_sem,n1,n2,n3,n4,n5,n8,n9,z0,z1,m1,m2,m3,m4,m5,m6,q1,q2,q3,od,ox,os,gd,gx,gs]
  refine aH (f:=183) (caps:=[.ptr dc x3 0,.ptr xc x5 0,.ptr sc x4 0]) aa rfl XP (by simp only[go_sem];refine ih (bu el) a6 el (l0 _) a6 (B+52) (((a'&&bC (aS lo li) i 4 name)&&cZ (nU p i lo li) es)&&dH (nU p i lo li) th) (((b'&&fe (aS lo li) p.funcs i 4 name es.length)&&cZ (mU p i lo li) es)&&dH (mU p i lo li) th) _ _ a6 a6 a6 ?_ ?_ ?_ ?_;exact(fun j hj=>nt (hfr j hj));exact(E1.mono hd hx hs hdB hxB hsB (fun j hj=>⟨nu,fun h5 h6=>nu⟩));exact XR;exact XR) ?_ ?_
  ·exact Vm
  rintro _ g' ob' ⟨rfl,rfl⟩
  simp only[go_sem,q9,hw]
  refine ae (m-1) a6 ⟨k+1,(((a'&&bC (aS lo li) i 4 name)&&cZ (nU p i lo li) es)&&dH (nU p i lo li) th)&&dH (nU p i lo li) el,(((b'&&fe (aS lo li) p.funcs i 4 name es.length)&&cZ (mU p i lo li) es)&&dH (mU p i lo li) th)&&dH (mU p i lo li) el,a6,by rw[←hxa];simp only[nU,D3],by rw[←hyb];simp only[mU,D3],?_⟩
  exact W0
 ·rw[if_neg k1,if_neg k2,if_neg k6] at hxa hyb
  simp only[go_sem,n1,n2,n3,n4,n5,n8,n9,z0,z1,m1,m2,m3,m4,m5,m6,q1,q2,q3,od,ox,os,gd,gx,gs,k1,k2,k6]
  refine aH (f:=182) (caps:=[.ptr dc x3 0,.ptr xc x5 0]) aa rfl XP (by simp only[go_sem];refine qM (i:=i) (g0:=g0) hd hx hfun hsz (bF es) es (l0 _) a6 (B+52) a' b' _ _ a6 a6 ?_ ?_ ?_ ?_;exact(fun j hj=>nt (hfr j hj));exact(E1.mono hd hx hs hdB hxB hsB (fun j hj=>⟨nu,fun h5 h6=>nu⟩)).v;exact(nt (o5));exact(nt (o6))) ?_ ?_
  ·exact Vm
  rintro _ g' ob' ⟨rfl,rfl⟩
  simp only[go_sem,n1,n2,n3,n4,n5,n8,n9,z0,z1,m1,m2,m3,m4,m5,m6,q1,q2,q3,od,ox,os,gd,gx,gs]
  refine aH (f:=183) (caps:=[.ptr dc x3 0,.ptr xc x5 0,.ptr sc x4 0]) aa rfl XP (by simp only[go_sem];refine ih (bu th) a6 th (l0 _) a6 (B+52) (a'&&cZ (nU p i lo li) es) (b'&&cZ (mU p i lo li) es) _ _ a6 a6 a6 ?_ ?_ ?_ ?_;exact(fun j hj=>nt (hfr j hj));exact(E1.mono hd hx hs hdB hxB hsB (fun j hj=>⟨nu,fun h5 h6=>nu⟩));exact XR;exact XR) ?_ ?_
  ·exact Vm
  rintro _ g' ob' ⟨rfl,rfl⟩
  simp only[go_sem,n1,n2,n3,n4,n5,n8,n9,z0,z1,m1,m2,m3,m4,m5,m6,q1,q2,q3,od,ox,os,gd,gx,gs]
  refine aH (f:=183) (caps:=[.ptr dc x3 0,.ptr xc x5 0,.ptr sc x4 0]) aa rfl XP (by simp only[go_sem];refine ih (bu el) a6 el (l0 _) a6 (B+52) ((a'&&cZ (nU p i lo li) es)&&dH (nU p i lo li) th) ((b'&&cZ (mU p i lo li) es)&&dH (mU p i lo li) th) _ _ a6 a6 a6 ?_ ?_ ?_ ?_;exact(fun j hj=>nt (hfr j hj));exact(E1.mono hd hx hs hdB hxB hsB (fun j hj=>⟨nu,fun h5 h6=>nu⟩));exact XR;exact XR) ?_ ?_
  ·exact Vm
  rintro _ g' ob' ⟨rfl,rfl⟩
  simp only[go_sem,q9,hw]
  refine ae (m-1) a6 ⟨k+1,((a'&&cZ (nU p i lo li) es)&&dH (nU p i lo li) th)&&dH (nU p i lo li) el,((b'&&cZ (mU p i lo li) es)&&dH (mU p i lo li) th)&&dH (mU p i lo li) el,a6,by rw[←hxa];simp only[w7,D3],by rw[←hyb];simp only[w7,D3],?_⟩
  exact W0
end
section
attribute [local congr] Go.Am.ite_cc
open Go Go.Am Go.Asm
open Go.Src (Th aF bK bg bn aS bC fe okE cZ okS dH Ex Stm szE bF szS bu jZ zC df iT)
theorem Az {p:Src.Prog}{i:Nat}{lo li:List Th}{g0:Nat→Nat} (hfun:∀s n,aS lo li s=some (4,n)→n<p.funcs.length) (hsz:szP p≤1000000000) {f:Src.Fn} (hszf:bu f.body≤1000000000) {a b:Bool}{g:Nat→Nat}{ob:Obs} (hB:∀i,3000≤i→ob i=none) (E:ScE p i lo li g0 g ob)
  (hn:ob 5=some [.d (.bool a)]) (hu:ob 6=some [.d (.bool b)]) :
  cB Tryz.prog 129 [fnV f,.one (.clo 130 (tn g0))] g ob (fun _ g' ob'=>Ez (a&&dH (nU p i lo li) f.body) (b&&dH (mU p i lo li) f.body) g ob g' ob') (fun _ _ _=>False):=by
 refine hdM 3000 [5,6] Tryz.func129 rfl [] a7 hB fun b₀ β0 s0 w0=>?_
 unfold fnV fnD
 simp only[go_sem]
 refine aH (f:=183) (caps:=[.ptr 3003 (nxC 239 (g 3003)) 0,.ptr 3005 (nxC 282 (g 3005)) 0,.ptr 3004 (nxC 281 (g 3004)) 0]) aa rfl XP (by simp only[go_sem];refine HP (i:=i) (g0:=g0) (lo:=lo) (li:=li) a8 a8 a8 hfun hsz (bu f.body) f.body (l0 _) hszf 3012 a b _ _ a8 a8 a8 ?_ ?_ ?_ ?_;exact(fun j hj=>nt (hB j a6));exact⟨⟨E.mono fun j hj=>⟨nu,fun h5 h6=>nu⟩,by simp[upd],by simp[upd],by simp[upd],by simp[upd]⟩,by simp[upd],by simp[upd]⟩;exact(by simp[upd];exact hn);exact(by simp[upd];exact hu)) ?_ ?_
 ·exact Vm
 rintro _ g' ob' ⟨rfl,rfl⟩
 simp only[go_sem]
 refine⟨_,ab.refl _,?_⟩
 simp only[go_sem]
 exact aT.use (fun i hi h5 h6=>⟨nu,nu⟩) (nu) (nu) XR XR (rs':=[]) rfl
theorem jN {α:Type} (c:Nat→α→Bool) {l:List α}{k:Nat}{x:α} (h:l[k]? = some x):df c 0 (l.take (k+1))=(df c 0 (l.take k)&&c k x):=by
 have hk:=(l4.1 h).1
 rw[A2,h,I1,Src.xW,A8,Nat.min_eq_left a6,C5]
theorem HQ {o:bE} (p:Src.Prog) (hlen:1≤p.funcs.length) (hsz:szP p≤1000000000):bi Tryz.prog 3 o 94 [eF p] (· = iv .i64 (iT p:Nat)):=by
 refine hdG Tryz.func94 rfl [.tmp 2] fun b₀ β0 s0 w0 g=>?_
 obtain⟨z,hz⟩:∃z,iT p=z:=⟨_,rfl⟩
 rw[hz]
 have hszp:=hsz
 unfold szP at hsz
 have hpV:eF p=.agg [.d (.sl (p.vars.map fun s=>[.str s])),.d (.sl (p.arrays.map arD)),.d (.sl (p.funcs.map fnD))]:=rfl
 rw[hpV]
 simp only[go_sem]
 refine bq ay rfl (by simp only[go_sem];rw[←hpV];exact BM (fun i hi=>nu) hszp) ?_ ?_
 ·exact Vm
 rintro r g1 ob1 ⟨rfl,⟨M,oM,mM,dM⟩,fr⟩
 have e1:=fr 1 (.inl a8)
 simp[upd] at e1
 have hfr:∀j,1100≤j→ob1 j=none:=fun j hj=>by rw[(fr j (.inr a6)).2];simp only[upd];rw[if_neg a6]
 clear fr
 simp only[go_sem,e1.1,e1.2,j5]
 refine ai (fun m st=>∃k:Nat,m+k=p.funcs.length∧st.f 1=.one (.ptr 1 (st.gen 1) 0)∧st.f 3=.one (.mp 1013 (st.gen 1013) 208)∧st.f 5=.one (.ptr 5 (st.gen 5) 0)∧st.f 6=.one (.ptr 6 (st.gen 6) 0)∧st.f 20=.one (.d (.sl (p.funcs.map fnD)))∧st.f 21=iv .i64 p.funcs.length∧st.f 22=iv .i64 k∧
   st.obj 1=some (gw p)∧st.obj 5=some [.d (.bool (bK [] (bg p)&&df (jZ p) 0 (p.funcs.take k)))]∧st.obj 6=some [.d (.bool (df (zC p) 0 (p.funcs.take k)))]∧(∃M,st.obj 1013=some M∧fR M (bg p))∧∀j,2100≤j→st.obj j=none) p.funcs.length ?_ ?_
 ·refine⟨0,rfl,?_⟩
  simp only[go_sem,e1.1,e1.2,oM]
  refine⟨rfl,by simp[df],by simp[df],⟨M,rfl,mM⟩,fun j hj=>nt (hfr j a6)⟩
 clear e1 hfr oM mM dM M
 rintro m f g1 ob1 ⟨k,hk,q1,q3,q5,q6,q20,q21,q22,o1,o5,o6,⟨M,oM,mM⟩,hfr⟩
 simp only at q1 q3 q5 q6 q20 q21 q22 o1 o5 o6 oM hfr
 have hw:=ah (k:=k) a6
 by_cases hlt:k<p.funcs.length
 ·have hki:(k:Int)<(p.funcs.length:Int):=a6
  have hk0:(0:Int)≤(k:Int):=a6
  obtain⟨x,he⟩:=getq hlt
  have hszf:=mO (p:=p) (l6 he)
  unfold szP at hszf
  have hfV:fnV x=.agg [.d (.str x.name),.d (.sl (x.params.map fun s=>[.str s])),.d (.sl (x.locals.map fun s=>[.str s])),.d (.bool x.word),.d (.sl (x.body.map smD))]:=rfl
  have hfD:fnD x=[.str x.name,.sl (x.params.map fun s=>[.str s]),.sl (x.locals.map fun s=>[.str s]),.bool x.word,.sl (x.body.map smD)]:=rfl
  simp only[go_sem,q20,q21,q22,hki,hk0,he,hfD]
  refine bq ay rfl (by simp only[go_sem];rw[←hfV];exact Ey (fun i hi=>nt (hfr i hi)) a6) ?_ ?_
  ·exact Vm
  rintro r g2 ob2 ⟨rfl,⟨M2,oM2,mM2,dM2⟩,fr⟩
  have e5:=fr 5 (.inl a8)
  have e6:=fr 6 (.inl a8)
  have e7:=fr 7 (.inl a8)
  have e8:=fr 8 (.inl a8)
  have e1:=fr 1 (.inl a8)
  have e13:=fr 1013 (.inl a8)
  simp[upd] at e5 e6 e7 e8 e1 e13
  rw[o5] at e5
  rw[o6] at e6
  rw[o1] at e1
  rw[oM] at e13
  obtain⟨u5,h5⟩:∃v,(bK [] (bg p)&&df (jZ p) 0 (List.take k p.funcs))=v:=⟨_,rfl⟩
  obtain⟨u6,h6⟩:∃v,df (zC p) 0 (List.take k p.funcs)=v:=⟨_,rfl⟩
  obtain⟨uf,hu⟩:∃v,bK [] (bn x)=v:=⟨_,rfl⟩
  rw[h5] at e5
  rw[h6] at e6
  rw[hu]
  simp only[go_sem,e5.1,e5.2,q5]
  cases u5
  ·simp only[go_sem,e5.2,e5.1,e6.1,e7.1,e8.1,e8.2,e7.2,e1.1,e13.1,q1,q3,q5,q6]
   rw[←hfV]
   refine bq ay rfl (by simp only[go_sem];rw[←e5.1,←e6.1,←e1.1,←e7.1];refine Az (p:=p) (i:=k) (lo:=bg p) (li:=bn x) (g0:=upd g2 11 (nxC 232 (g2 11))) (a:=false) (b:=u6) (fun s n h=>Src.Ou h) hsz a6 ?_ ?_ ?_ ?_;exact(fun j hj=>by (try simp only[upd]);(repeat rw[if_neg (by omega)]);rw[(fr j (.inr (by omega))).2];exact nt (hfr j (by omega)));exact⟨by simp[upd];exact e7.2,by simp[upd];exact e1.2,by simp[upd,e13.1],fun j hj=>rfl,⟨M,by simp[upd];exact e13.2,mM⟩,⟨M2,by simp[upd];exact oM2,mM2⟩⟩;exact(by simp[upd]);exact(by simp[upd];exact e6.2)) ?_ ?_
   ·exact Vm
   exact Vx
  ·simp only[go_sem,e5.2,e5.1,e6.1,e7.1,e8.1,e8.2,e7.2,e1.1,e13.1,q1,q3,q5,q6]
   rw[←hfV]
   refine bq ay rfl (by simp only[go_sem];rw[←e5.1,←e6.1,←e1.1,←e7.1];refine Az (p:=p) (i:=k) (lo:=bg p) (li:=bn x) (g0:=upd g2 11 (nxC 232 (g2 11))) (a:=uf) (b:=u6) (fun s n h=>Src.Ou h) hsz a6 ?_ ?_ ?_ ?_;exact(fun j hj=>by (try simp only[upd]);(repeat rw[if_neg (by omega)]);rw[(fr j (.inr (by omega))).2];exact nt (hfr j (by omega)));exact⟨by simp[upd];exact e7.2,by simp[upd];exact e1.2,by simp[upd,e13.1],fun j hj=>rfl,⟨M,by simp[upd];exact e13.2,mM⟩,⟨M2,by simp[upd];exact oM2,mM2⟩⟩;exact(by simp[upd]);exact(by simp[upd];exact e6.2)) ?_ ?_
   ·exact Vm
   exact Vx
 have hki:¬(k:Int)<(p.funcs.length:Int):=a6
 obtain rfl:k=p.funcs.length:=a6
 rw[l5 (l0 _)] at o5 o6
 unfold iT at hz
 unfold gw iX at o1
 simp only[l7,v8] at o1
 obtain⟨u5,h5⟩:∃v,(bK [] (bg p)&&df (jZ p) 0 p.funcs)=v:=⟨_,rfl⟩
 obtain⟨u6,h6⟩:∃v,df (zC p) 0 p.funcs=v:=⟨_,rfl⟩
 rw[h5] at o5 hz
 rw[h6] at o6 hz
 simp only[go_sem,q21,q22,hki,q5,o5]
 cases u5
 ·rw[if_pos rfl] at hz
  subst hz
  exact VU
 rw[if_neg a7] at hz
 have hwm:IntKind.i64.wrap ((p.funcs.length:Int)-1)=((p.funcs.length-1:Nat):Int):=by rw[wrap_i64] <;> omega
 obtain⟨x,he⟩:=getq (show p.funcs.length-1<p.funcs.length by omega)
 have hlast:p.funcs.getLast? = some x:=by rw[List.getLast?_eq_getElem?,he]
 rw[hlast] at hz
 simp only at hz
 have hm0:(0:Int)≤((p.funcs.length-1:Nat):Int):=a6
 have hm1:((p.funcs.length-1:Nat):Int)<(p.funcs.length:Int):=a6
 obtain⟨nm,ps,ls,wd,body⟩:=x
 simp only at hz
 simp only[go_sem,q1,o1,j5,hwm,hm0,hm1,he,fnD,q6,o6]
 cases u6
 ·rw[if_neg a7] at hz
  subst hz
  exact VU
 by_cases hnm:nm=[109,97,105,110]
 case neg=>
  rw[if_neg (fun h=>hnm h.2.1)] at hz
  subst hz
  simp only[go_sem,hnm]
 by_cases hps:0<ps.length
 ·have hpi:(0:Int)<(ps.length:Int):=a6
  rw[if_neg (fun h=>by rw[h.2.2.1] at hps;simp at hps)] at hz
  subst hz
  simp only[go_sem,s5 hnm,j5,hpi]
 have hpi:¬(0:Int)<(ps.length:Int):=a6
 have hp0:ps=[]:=J6.1 a6
 cases wd
 ·rw[if_pos ⟨rfl,hnm,hp0,rfl⟩] at hz
  subst hz
  simp only[go_sem,s5 hnm,j5,hpi]
 ·rw[if_neg (fun h=>by cases h.2.2.2)] at hz
  subst hz
  simp only[go_sem,s5 hnm,j5,hpi]
end
end Go.Proofs.YtgiigidgdhplfaaGreatDoor
namespace Go.Src
section
open Go.Asm (Str)
def cl:List Fn→Str→Option Fn
 |[],_=>none
 |f::l,s=>if f.name=s then some f else cl l s
theorem Nq (l m:List Fn) (s:Str):cl (l++m) s=match cl l s with|some x=>some x|none=>cl m s:=by
 induction l with
 |nil=>rfl
 |cons t l ih=>simp only[z8,cl];split <;> simp_all
def kG (fs:List Fn) (s:Str):Bool:=match cl fs s with|some f=>f.word|none=>false
mutual
def kH (fs:List Fn):Ex→Int
 |.mk kind op _ name kids=>
   if kind<1∨9<kind then 0
   else if kind=1∨kind=2∨kind=5 then 1
   else if kind=3 then(if eb fs 1 kids then 1 else 0)
   else if kind=4 then(if kG fs name && eb fs 1 kids then 1 else 0)
   else if kind=6 then(if eb fs 1 kids then(if op=14∨op=15 then 2 else 1) else 0)
   else(if eb fs 2 kids then 2 else 0)
def eb (fs:List Fn) (t:Int):List Ex→Bool
 |[]=>true
 |e::l=>decide (kH fs e=t)&&eb fs t l
end
mutual
def iU (fs:List Fn):Ex→Bool
 |.mk kind _ _ name kids=>(if kind=4 then(cl fs name).isSome else true) && di fs kids
def di (fs:List Fn):List Ex→Bool
 |[]=>true
 |e::l=>iU fs e&&di fs l
end
mutual
def vQ (fs:List Fn):Stm→Bool
 |.mk kind name e th el=>(if kind=6 then(cl fs name).isSome else true) && di fs e && (dj fs th && dj fs el)
def dj (fs:List Fn):List Stm→Bool
 |[]=>true
 |s::l=>vQ fs s&&dj fs l
end
mutual
def pQ (fs:List Fn) (w:Bool):Stm→Bool
 |.mk kind name e th el=>!(kind == 6 && kG fs name) && !(kind == 7 && decide (0<e.length) && !w) && eb fs (if kind=4∨kind=5 then 2 else 1) e && (cJ fs w th && cJ fs w el)
def cJ (fs:List Fn) (w:Bool):List Stm→Bool
 |[]=>true
 |s::l=>pQ fs w s&&cJ fs w l
end
def nO (p:Prog):Nat:=
 if (p.funcs.all fun f=>dj p.funcs f.body)=false then 4
 else if (p.funcs.all fun f=>cJ p.funcs f.word f.body)=false then 5 else 0
def cC (p:Prog):Nat:=if dS p=false then 7 else if iT p≠0 then iT p else nO p
end
end Go.Src

/- A part of the proof; no conditions. -/
import Derived.Test.YtgiigidgdhplfaaGreatDoorPart12
set_option linter.unusedSimpArgs false
set_option linter.unusedVariables false
set_option maxHeartbeats 64000000
set_option maxRecDepth 100000
namespace Go.Proofs.YtgiigidgdhplfaaGreatDoor
section
attribute [local congr] Go.Am.ite_cc
open Go Go.Am Go.Asm
open Go.Src (Th aF bK bg bn aS)
section
variable {g:Nat→Nat}{ob:Obs}{M:List C}{B:Nat}{l:List Th}{s:St}{R:AV→(Nat→Nat)→Obs→Prop}{avs rs':List AV}
theorem aT.nil (h:∀i,i<B→s.gen i=g i∧s.obj i=ob i) (hf:eE B s avs rs') (hr:R (pack rs') g ob):aT B [] g ob R s avs:=
 ⟨⟨fun i hi _=>h i hi,fun _ h=>by simp at h⟩,rs',hf,by rw[Df,Dg];exact hr⟩
theorem BK (xs:List D):sR B s (.agg (xs.map .d)) (.agg (xs.map .d)):=.agg a7 fun i c hc=>by
 rw[w8] at hc
 cases hq:xs[i]? with
 |none=>rw[hq] at hc;cases hc
 |some x=>rw[hq] at hc;cases hc;exact⟨_,rfl,.d x⟩
def thD (t:Nat×Nat):List D:=[.int .i64 (t.1:Nat),.int .i64 (t.2:Nat)]
def fR (M:List C) (l:List Th):Prop:=∀s:Str,mget M (.str s)=(aF l s).map fun t=>.d (.iptr (thD t))
def jv (M:List C):Prop:=∀c∈M,∃x,c=.d x
theorem jw {k x:D}:∀{M:List C},jv M→jv (mset M k (.d x))
 |.d k'::c::r,h=>by
   simp only[mset]
   split
   ·intro y hy
    rcases x9.1 hy with rfl|hy
    ·exact⟨_,rfl⟩
    rcases x9.1 hy with rfl|hy
    ·exact⟨_,rfl⟩
    ·exact h y (by simp[hy])
   ·intro y hy
    rcases x9.1 hy with rfl|hy
    ·exact⟨_,rfl⟩
    rcases x9.1 hy with rfl|hy
    ·exact h y a7
    ·exact jw (M:=r) (fun z hz=>h z (by simp[hz])) y hy
 |[],h=>by simp[mset,jv]
 |[.d k'],h=>by simp[mset,jv]
 |.osl _ _ _ _ _::_,h=>by obtain⟨x,hx⟩:=h _ (I0 ..);cases hx
 |.ptr _ _ _::_,h=>by obtain⟨x,hx⟩:=h _ (I0 ..);cases hx
 |.mp _ _ _::_,h=>by obtain⟨x,hx⟩:=h _ (I0 ..);cases hx
 |.clo _ _::_,h=>by obtain⟨x,hx⟩:=h _ (I0 ..);cases hx
 |.lsl _::_,h=>by obtain⟨x,hx⟩:=h _ (I0 ..);cases hx
 |.raw _::_,h=>by obtain⟨x,hx⟩:=h _ (I0 ..);cases hx
theorem jv.low (h:jv M):∀c∈M,lI B c:=fun c hc=>by obtain⟨x,rfl⟩:=h c hc;trivial
theorem fR.put{nm:Str}{t:Nat×Nat} (h:fR M l) (hn:aF l nm=none):fR (mset M (.str nm) (.d (.iptr (thD t)))) (l++[(nm,t)]):=fun s=>by
 rw[mG,Src.qs]
 simp only[iV,aF]
 by_cases hs:nm=s
 ·subst hs
  rw[hn]
  simp
 ·simp only[hs,L8,B8,A4]
  rw[h s]
  cases aF l s <;> rfl
theorem fR.old{nm:Str}{t x:Nat×Nat} (h:fR M l) (hn:aF l nm=some x):fR M (l++[(nm,t)]):=fun s=>by
 rw[h s,Src.qs]
 cases hf:aF l s with
 |some y=>rfl
 |none=>
   simp only[aF]
   rw[if_neg (by rintro rfl;rw[hn] at hf;cases hf)]
theorem vy {S:List Nat}{g g':Nat→Nat} (h:∀i∈S,g' i=g i):iO S g g'=g:=by
 funext i
 unfold iO
 split
 ·exact h i j0
 ·rfl
theorem Ew {a b:Nat}{ob ob':Obs}:eL [a,b] ob ob'=upd (upd ob a (ob' a)) b (ob' b):=by
 funext i
 simp only[eL,upd,x9,A1,E7]
 by_cases h1:i=b
 ·subst h1;simp
 ·by_cases h2:i=a
  ·subst h2;simp[h1]
  ·simp[h1,h2]
def pt (x:Option (Nat×Nat)):AV:=match x with|some t=>.agg ((thD t).map .d)|none=>.agg [.d (.int .i64 0),.d (.int .i64 (-1))]
theorem LW {B io ii go gi:Nat}{Mo Mi:List C}{lo li:List Th} (hB:∀i,B≤i→ob i=none) (hlo:io<B) (hli:ii<B) (ho:ob io=some Mo) (hi:ob ii=some Mi) (mo:fR Mo lo) (mi:fR Mi li) (nm:Str) (hgo:g io=go) (hgi:g ii=gi) :
  cB Tryz.prog 131 [.agg [.mp io go 208,.mp ii gi 208],sv nm] g ob (fun r g' ob'=>g'=g∧ob'=ob∧r=pt (aS lo li nm)) (fun _ _ _=>False):=by
 subst hgo hgi
 refine hdM B [] Tryz.func131 rfl [.cell 4 236] a7 hB fun b₀ β0 s0 w0=>?_
 have n1:∀k,(io=B+k)=False:=fun k=>by simp;omega
 have n2:∀k,(ii=B+k)=False:=fun k=>by simp;omega
 have hlw:∀i,i<B→g i=g i∧ob i=ob i:=fun _ _=>⟨rfl,rfl⟩
 have mi1:=mi nm
 have mo1:=mo nm
 unfold aS
 cases hfi:aF li nm with
 |some t=>
   rw[hfi] at mi1
   simp only[x8,thD] at mi1
   simp only[go_sem,n1,n2,hi,C8,B3,mi1]
   exact VR
 |none=>
   rw[hfi] at mi1
   simp only[G7] at mi1
   cases hfo:aF lo nm with
   |some t=>
     rw[hfo] at mo1
     simp only[x8,thD] at mo1
     simp only[go_sem,n1,n2,hi,C8,B3,mi1,ho,mo1]
     exact VR
   |none=>
     rw[hfo] at mo1
     simp only[G7] at mo1
     simp only[go_sem,n1,n2,hi,C8,B3,mi1,ho,mo1]
     refine⟨_,ab.refl _,?_⟩
     simp only[go_sem,n1,n2]
     exact aT.nil (fun i hi=>⟨by (try simp only[upd]);(repeat rw[if_neg (by omega)]);first|done|rfl|exact(hlw i hi).1,by (try simp only[upd]);(repeat rw[if_neg (by omega)]);first|done|rfl|exact(hlw i hi).2⟩) (rs':=[pt none]) ⟨_,_,rfl,BK [.int .i64 0,.int .i64 (-1)],rfl⟩ ⟨rfl,rfl,rfl⟩
theorem aT.two {B a b:Nat}{ca cb:List C} (h:∀i,i<B→i≠a→i≠b→s.gen i=g i∧s.obj i=ob i) (ga:s.gen a=g a) (gb:s.gen b=g b) (oa:s.obj a=some ca) (obb:s.obj b=some cb)
  (la:∀c∈ca,lI B c) (lb:∀c∈cb,lI B c) (hf:eE B s avs rs') (hr:R (pack rs') g (upd (upd ob a (some ca)) b (some cb))):aT B [a,b] g ob R s avs:=by
 refine⟨⟨fun i hi hn=>h i hi (fun e=>hn YK) (fun e=>hn YK),fun i hi cells hc=>?_⟩,rs',hf,?_⟩
 ·simp only[x9,A1,E7] at hi
  rcases hi with rfl|rfl
  ·rw[oa] at hc;cases hc;exact la
  ·rw[obb] at hc;cases hc;exact lb
 ·rw[vy (fun i hi=>by simp only[x9,A1,E7] at hi;rcases hi with rfl|rfl <;> assumption),Ew,oa,obb]
  exact hr
theorem BL{x:D}:∀c∈[C.d x],lI B c:=fun c hc=>by rw[C7.1 hc];trivial
def Rm (im cu:Nat) (l:List Th) (nm:Str) (t:Nat×Nat) (u:Bool) (g:Nat→Nat) (ob:Obs) (g':Nat→Nat) (ob':Obs):Prop:=
 g'=g∧∃M',fR M' (l++[(nm,t)])∧jv M'∧ob'=upd (upd ob im (some M')) cu (some [.d (.bool (u&&(aF l nm).isNone))])
theorem rU {B im cm cu:Nat}{u:Bool} (hB:∀i,B≤i→ob i=none) (h1:im<B) (h2:cm<B) (h3:cu<B) (d12:im≠cm) (d13:im≠cu) (d23:cm≠cu) (hm:ob im=some M) (hcm:ob cm=some [.mp im (g im) 208]) (hcu:ob cu=some [.d (.bool u)])
  (mo:fR M l) (hd:jv M) (nm:Str) (t:Nat×Nat) :
  cB Tryz.prog 180 [sv nm,.agg ((thD t).map .d),iN (.ptr cm (g cm) 0),iN (.ptr cu (g cu) 0)] g ob (fun _ g' ob'=>Rm im cu l nm t u g ob g' ob') (fun _ _ _=>False):=by
 refine hdM B [im,cu] Tryz.func180 rfl [] (by simp[h1,h3]) hB fun b₀ β0 s0 w0=>?_
 have n1:∀k,(im=B+k)=False:=fun k=>by simp;omega
 have n2:∀k,(cm=B+k)=False:=fun k=>by simp;omega
 have n3:∀k,(cu=B+k)=False:=fun k=>by simp;omega
 have mo1:=mo nm
 unfold thD
 cases hf:aF l nm with
 |some x=>
   exact Vq
 |none=>
   rw[hf] at mo1
   simp only[G7] at mo1
   simp only[go_sem,n1,n2,n3,iN,hcm,hm,C8,B3,mo1,hcu]
   refine⟨_,ab.refl _,?_⟩
   simp only[go_sem]
   refine aT.two (ca:=mset M (.str nm) (.d (.iptr (thD t)))) (cb:=[.d (.bool u)]) (fun i hi ha hb=>⟨by (try simp only[upd]);(repeat rw[if_neg (by omega)]),by (try simp only[upd]);(repeat rw[if_neg (by omega)])⟩) (by (try simp only[upd]);(repeat rw[if_neg (by omega)])) (by (try simp only[upd]);(repeat rw[if_neg (by omega)])) (by simp[upd,thD]) (by simp only[upd];rw[if_neg (z7 d13)];(repeat rw[if_neg (by omega)]);exact hcu) (jw hd).low BL (rs':=[]) rfl ⟨rfl,_,mo.put hf,jw hd,by rw[hf];simp⟩
theorem wO {B im cm cu:Nat}{u:Bool} (hB:∀i,B≤i→ob i=none) (h1:im<B) (h2:cm<B) (h3:cu<B) (d12:im≠cm) (d13:im≠cu) (d23:cm≠cu) (hm:ob im=some M) (hcm:ob cm=some [.mp im (g im) 208]) (hcu:ob cu=some [.d (.bool u)])
  (mo:fR M l) (hd:jv M) (nm:Str) (k:Nat) :
  cB Tryz.prog 181 [sv nm,iv .i64 (k:Nat),iN (.ptr cm (g cm) 0),iN (.ptr cu (g cu) 0)] g ob (fun _ g' ob'=>Rm im cu l nm (1,k) u g ob g' ob') (fun _ _ _=>False):=by
 refine hdM B [im,cu] Tryz.func181 rfl [] (by simp[h1,h3]) hB fun b₀ β0 s0 w0=>?_
 have n1:∀k,(im=B+k)=False:=fun k=>by simp;omega
 have n2:∀k,(cm=B+k)=False:=fun k=>by simp;omega
 have n3:∀k,(cu=B+k)=False:=fun k=>by simp;omega
 have mo1:=mo nm
 cases hf:aF l nm with
 |some x=>
   exact Vq
 |none=>
   rw[hf] at mo1
   simp only[G7] at mo1
   simp only[go_sem,n1,n2,n3,iN,hcm,hm,C8,B3,mo1,hcu]
   refine⟨_,ab.refl _,?_⟩
   simp only[go_sem]
   refine aT.two (ca:=mset M (.str nm) (.d (.iptr (thD (1,k))))) (cb:=[.d (.bool u)]) (fun i hi ha hb=>⟨by (try simp only[upd]);(repeat rw[if_neg (by omega)]),by (try simp only[upd]);(repeat rw[if_neg (by omega)])⟩) (by (try simp only[upd]);(repeat rw[if_neg (by omega)])) (by (try simp only[upd]);(repeat rw[if_neg (by omega)])) (by simp[upd,thD]) (by simp only[upd];rw[if_neg (z7 d13)];(repeat rw[if_neg (by omega)]);exact hcu) (jw hd).low BL (rs':=[]) rfl ⟨rfl,_,mo.put hf,jw hd,by rw[hf];simp⟩
end
end
section
attribute [local congr] Go.Am.ite_cc
open Go Go.Am Go.Asm
open Go.Src (Th aF bK bg bn aS thV thA thF thL)
section
theorem iG {α β:Type}{f:Nat→α→β}{l:List α}{k:Nat}{x:α} (h:l[k]? = some x):(l.take (k+1)).mapIdx f=(l.take k).mapIdx f++[f k x]:=by
 have hk:=(l4.1 h).1
 rw[A2,h,I1,List.mapIdx_concat,A8,Nat.min_eq_left a6]
structure GlI (B:Nat) (l:List Th) (g:Nat→Nat) (ob:Obs) (f:Nat) (p:List C) (st:St):Prop where
 f1:st.f 1=.one (.ptr (B+1) (st.gen (B+1)) 0)
 f4:st.f 4=.one (.ptr (B+4) (st.gen (B+4)) 0)
 f5:st.f 5=.one (.ptr (B+5) (st.gen (B+5)) 0)
 f6:st.f 6=.one (.clo f [.ptr (B+4) (st.gen (B+4)) 0,.ptr (B+5) (st.gen (B+5)) 0])
 o1:st.obj (B+1)=some p
 o5:st.obj (B+5)=some [.d (.bool (bK [] l))]
 fr:∀i,i<B∨B+100≤i→st.gen i=g i∧st.obj i=ob i
def GlR (im B:Nat) (l:List Th) (g:Nat→Nat) (ob:Obs) (r:AV) (g':Nat→Nat) (ob':Obs):Prop:=
 r=.tup [.one (.mp im (g' im) 208),bv (bK [] l)]∧(∃M,ob' im=some M∧fR M l∧jv M)∧∀i,i<B∨B+100≤i→g' i=g i∧ob' i=ob i
theorem iH {l:List Th}{t:Th}:bK [] (l++[t])=(bK [] l&&(aF l t.1).isNone):=by rw[Src.oV];rfl
variable {g:Nat→Nat}
theorem BM{ob:Obs}{p:Src.Prog} (hfree:∀i,1100≤i→ob i=none) (hsz:szP p≤1000000000) :
  cB Tryz.prog 127 [eF p] g ob (GlR 1013 1000 (bg p) g ob) (fun _ _ _=>False):=by
 refine hdX 1000 Tryz.func127 rfl [.tmp 2,.tmp 3] fun b₀ β0 s0 w0=>?_
 obtain⟨vs,ars,fs⟩:=p
 unfold szP at hsz
 simp only at hsz
 obtain⟨L,hL⟩:∃L,bg ⟨vs,ars,fs⟩=L:=⟨_,rfl⟩
 rw[hL]
 unfold bg at hL
 simp only at hL
 unfold eF iX
 simp only[go_sem,j5]
 refine ai (fun m st=>∃k:Nat,m+k=vs.length∧GlI 1000 (thV (vs.take k)) g ob 180 (gw ⟨vs,ars,fs⟩) st∧st.obj 1004=some [.mp 1013 (st.gen 1013) 208]∧(∃M,st.obj 1013=some M∧fR M (thV (vs.take k))∧jv M)∧st.f 16=.one (.d (.sl (vs.map fun s=>[.str s])))∧st.f 17=iv .i64 vs.length∧st.f 18=iv .i64 k) vs.length ?_ ?_
 ·exact Wx
 rintro m f g1 ob1 ⟨k,hk,⟨q1,q4,q5,q6,o1,o5,fr⟩,o4,⟨M,oM,mM,dM⟩,q16,q17,q18⟩
 simp only[Nat.reduceAdd] at q1 q4 q5 q6 o1 o5 fr o4 oM q16 q17 q18
 have hw:=ah (k:=k) a6
 by_cases hlt:k<vs.length
 ·have hki:(k:Int)<(vs.length:Int):=a6
  have hk0:(0:Int)≤(k:Int):=a6
  obtain⟨v,he⟩:=getq hlt
  simp only[go_sem,q6,q16,q17,q18,hki,hk0,he]
  refine aH (f:=180) (caps:=[.ptr 1004 (g1 1004) 0,.ptr 1005 (g1 1005) 0]) aa rfl YH (by simp only[go_sem];exact rU (B:=1100) (im:=1013) (cm:=1004) (cu:=1005) (fun i hi=>by rw[(fr i a6).2];exact hfree i hi) a8 a8 a8 a8 a8 a8 oM o4 o5 mM dM v (2,k)) ?_ ?_
  ·exact Vm
  rintro _ g' ob' ⟨rfl,M',mM',dM',rfl⟩
  simp only[go_sem,q18,hw]
  have hT:thV (vs.take (k+1))=thV (vs.take k)++[(v,2,k)]:=iG he
  exact Wg
 have hki:¬(k:Int)<(vs.length:Int):=a6
 obtain rfl:k=vs.length:=a6
 unfold gw iX at o1
 simp only[l7,v8] at o1
 simp only[go_sem,q1,o1,q17,q18,hki,j5]
 refine ai (fun m st=>∃k:Nat,m+k=ars.length∧GlI 1000 (thV vs++thA (ars.take k)) g ob 180 (gw ⟨vs,ars,fs⟩) st∧st.obj 1004=some [.mp 1013 (st.gen 1013) 208]∧(∃M,st.obj 1013=some M∧fR M (thV vs++thA (ars.take k))∧jv M)∧st.f 30=.one (.d (.sl (ars.map arD)))∧st.f 31=iv .i64 ars.length∧st.f 32=iv .i64 k) ars.length ?_ ?_
 ·rw[l5 (l0 _)] at o5 mM
  have hT0:thV vs++thA []=thV vs:=by simp[thA]
  exact V3
 clear q1 q4 q5 q6 o1 o5 fr o4 oM q16 q17 q18 mM dM hw hlt hki hk M
 rintro m f g1 ob1 ⟨k,hk,⟨q1,q4,q5,q6,o1,o5,fr⟩,o4,⟨M,oM,mM,dM⟩,q16,q17,q18⟩
 simp only[Nat.reduceAdd] at q1 q4 q5 q6 o1 o5 fr o4 oM q16 q17 q18
 have hw:=ah (k:=k) a6
 by_cases hlt:k<ars.length
 ·have hki:(k:Int)<(ars.length:Int):=a6
  have hk0:(0:Int)≤(k:Int):=a6
  obtain⟨⟨v,z⟩,he⟩:=getq hlt
  have n4:=(fr 1100 a6).2
  simp only[go_sem,q6,q16,q17,q18,hki,hk0,he,arD]
  refine aH (f:=180) (caps:=[.ptr 1004 (g1 1004) 0,.ptr 1005 (g1 1005) 0]) aa rfl YH (by simp only[go_sem];exact rU (B:=1100) (im:=1013) (cm:=1004) (cu:=1005) (fun i hi=>by (try simp only[upd]);(repeat rw[if_neg (by omega)]);rw[(fr i (by omega)).2];exact hfree i hi) (by decide) (by decide) (by decide) (by decide) (by decide) (by decide) (by simp[upd];exact oM) (by simp[upd];exact o4) (by simp[upd];exact o5) mM dM v (3,k)) ?_ ?_
  ·exact Vm
  rintro _ g' ob' ⟨rfl,M',mM',dM',rfl⟩
  simp only[go_sem,q18,hw]
  have hT:thV vs++thA (ars.take (k+1))=(thV vs++thA (ars.take k))++[(v,3,k)]:=by
   rw[r0]
   congr 1
   exact iG he
  exact We
 have hki:¬(k:Int)<(ars.length:Int):=a6
 obtain rfl:k=ars.length:=a6
 unfold gw iX at o1
 simp only[l7,v8] at o1
 simp only[go_sem,q1,o1,q17,q18,hki,j5]
 refine ai (fun m st=>∃k:Nat,m+k=fs.length∧GlI 1000 (thV vs++thA ars++thF (fs.take k)) g ob 180 (gw ⟨vs,ars,fs⟩) st∧st.obj 1004=some [.mp 1013 (st.gen 1013) 208]∧(∃M,st.obj 1013=some M∧fR M (thV vs++thA ars++thF (fs.take k))∧jv M)∧st.f 45=.one (.d (.sl (fs.map fnD)))∧st.f 46=iv .i64 fs.length∧st.f 47=iv .i64 k) fs.length ?_ ?_
 ·rw[l5 (l0 _)] at o5 mM
  have hT0:thV vs++thA ars++thF []=thV vs++thA ars:=by simp[thF]
  exact V3
 clear q1 q4 q5 q6 o1 o5 fr o4 oM q16 q17 q18 mM dM hw hlt hki hk M
 rintro m f g1 ob1 ⟨k,hk,⟨q1,q4,q5,q6,o1,o5,fr⟩,o4,⟨M,oM,mM,dM⟩,q16,q17,q18⟩
 simp only[Nat.reduceAdd] at q1 q4 q5 q6 o1 o5 fr o4 oM q16 q17 q18
 have hw:=ah (k:=k) a6
 by_cases hlt:k<fs.length
 ·have hki:(k:Int)<(fs.length:Int):=a6
  have hk0:(0:Int)≤(k:Int):=a6
  obtain⟨x,he⟩:=getq hlt
  simp only[go_sem,q6,q16,q17,q18,hki,hk0,he,fnD]
  refine aH (f:=180) (caps:=[.ptr 1004 (g1 1004) 0,.ptr 1005 (g1 1005) 0]) aa rfl YH (by simp only[go_sem];exact rU (B:=1100) (im:=1013) (cm:=1004) (cu:=1005) (fun i hi=>by (try simp only[upd]);(repeat rw[if_neg (by omega)]);rw[(fr i (by omega)).2];exact hfree i hi) (by decide) (by decide) (by decide) (by decide) (by decide) (by decide) (by simp[upd];exact oM) (by simp[upd];exact o4) (by simp[upd];exact o5) mM dM x.name (4,k)) ?_ ?_
  ·exact Vm
  rintro _ g' ob' ⟨rfl,M',mM',dM',rfl⟩
  simp only[go_sem,q18,hw]
  have hT:thV vs++thA ars++thF (fs.take (k+1))=(thV vs++thA ars++thF (fs.take k))++[(x.name,4,k)]:=by
   rw[r0 (thV vs++thA ars)]
   congr 1
   exact iG he
  exact We
 have hki:¬(k:Int)<(fs.length:Int):=a6
 obtain rfl:k=fs.length:=a6
 exact Ws
theorem Ey{ob:Obs}{x:Src.Fn} (hfree:∀i,2100≤i→ob i=none) (hsz:x.params.length+x.locals.length≤1000000000) :
  cB Tryz.prog 128 [fnV x] g ob (GlR 2011 2000 (bn x) g ob) (fun _ _ _=>False):=by
 refine hdX 2000 Tryz.func128 rfl [.tmp 2,.tmp 3] fun b₀ β0 s0 w0=>?_
 obtain⟨nm,ps,ls,wd,body⟩:=x
 simp only at hsz
 obtain⟨L,hL⟩:∃L,bn ⟨nm,ps,ls,wd,body⟩=L:=⟨_,rfl⟩
 rw[hL]
 unfold bn at hL
 simp only at hL
 unfold fnV fnD
 simp only[go_sem,j5]
 refine ai (fun m st=>∃k:Nat,m+k=ps.length∧GlI 2000 (thL 0 (ps.take k)) g ob 181 ((fnD ⟨nm,ps,ls,wd,body⟩).map .d) st∧st.obj 2004=some [.mp 2011 (st.gen 2011) 208]∧(∃M,st.obj 2011=some M∧fR M (thL 0 (ps.take k))∧jv M)∧st.f 14=.one (.d (.sl (ps.map fun s=>[.str s])))∧st.f 15=iv .i64 ps.length∧st.f 16=iv .i64 k) ps.length ?_ ?_
 ·exact Wx
 rintro m f g1 ob1 ⟨k,hk,⟨q1,q4,q5,q6,o1,o5,fr⟩,o4,⟨M,oM,mM,dM⟩,q16,q17,q18⟩
 simp only[Nat.reduceAdd] at q1 q4 q5 q6 o1 o5 fr o4 oM q16 q17 q18
 have hw:=ah (k:=k) a6
 by_cases hlt:k<ps.length
 ·have hki:(k:Int)<(ps.length:Int):=a6
  have hk0:(0:Int)≤(k:Int):=a6
  obtain⟨v,he⟩:=getq hlt
  simp only[go_sem,q6,q16,q17,q18,hki,hk0,he]
  refine aH (f:=181) (caps:=[.ptr 2004 (g1 2004) 0,.ptr 2005 (g1 2005) 0]) aa rfl YH (by simp only[go_sem];exact wO (B:=2100) (im:=2011) (cm:=2004) (cu:=2005) (fun i hi=>by rw[(fr i a6).2];exact hfree i hi) a8 a8 a8 a8 a8 a8 oM o4 o5 mM dM v k) ?_ ?_
  ·exact Vm
  rintro _ g' ob' ⟨rfl,M',mM',dM',rfl⟩
  simp only[go_sem,q18,hw]
  have hT:thL 0 (ps.take (k+1))=thL 0 (ps.take k)++[(v,1,k)]:=by
   have:=iG (f:=fun i n=>((n,1,0+i):Th)) he
   simpa[thL] using this
  exact Wg
 have hki:¬(k:Int)<(ps.length:Int):=a6
 obtain rfl:k=ps.length:=a6
 unfold fnD at o1
 simp only[l7,v8] at o1
 simp only[go_sem,q1,o1,q17,q18,hki,j5]
 refine ai (fun m st=>∃k:Nat,m+k=ls.length∧GlI 2000 (thL 0 ps++thL ps.length (ls.take k)) g ob 181 ((fnD ⟨nm,ps,ls,wd,body⟩).map .d) st∧st.obj 2004=some [.mp 2011 (st.gen 2011) 208]∧(∃M,st.obj 2011=some M∧fR M (thL 0 ps++thL ps.length (ls.take k))∧jv M)∧st.f 27=.one (.d (.sl (ls.map fun s=>[.str s])))∧st.f 28=iv .i64 ls.length∧st.f 29=iv .i64 k) ls.length ?_ ?_
 ·rw[l5 (l0 _)] at o5 mM
  have hT0:thL 0 ps++thL ps.length []=thL 0 ps:=by simp[thL]
  exact V3
 clear q1 q4 q5 q6 o1 o5 fr o4 oM q16 q17 q18 mM dM hw hlt hki hk M
 rintro m f g1 ob1 ⟨k,hk,⟨q1,q4,q5,q6,o1,o5,fr⟩,o4,⟨M,oM,mM,dM⟩,q16,q17,q18⟩
 simp only[Nat.reduceAdd] at q1 q4 q5 q6 o1 o5 fr o4 oM q16 q17 q18
 have hw:=ah (k:=k) a6
 by_cases hlt:k<ls.length
 ·have hki:(k:Int)<(ls.length:Int):=a6
  have hk0:(0:Int)≤(k:Int):=a6
  have hwk:IntKind.i64.wrap ((ps.length:Int)+(k:Int))=((ps.length+k:Nat):Int):=by rw[wrap_i64] <;> omega
  obtain⟨v,he⟩:=getq hlt
  unfold fnD at o1
  simp only[l7,v8] at o1
  simp only[go_sem,q1,o1,q6,q16,q17,q18,hki,hk0,he,j5,hwk]
  refine aH (f:=181) (caps:=[.ptr 2004 (g1 2004) 0,.ptr 2005 (g1 2005) 0]) aa rfl YH (by simp only[go_sem];exact wO (B:=2100) (im:=2011) (cm:=2004) (cu:=2005) (fun i hi=>by (try simp only[upd]);(repeat rw[if_neg (by omega)]);rw[(fr i (by omega)).2];exact hfree i hi) (by decide) (by decide) (by decide) (by decide) (by decide) (by decide) oM o4 o5 mM dM v (ps.length+k)) ?_ ?_
  ·exact Vm
  rintro _ g' ob' ⟨rfl,M',mM',dM',rfl⟩
  simp only[go_sem,q18,hw]
  have hT:thL 0 ps++thL ps.length (ls.take (k+1))=(thL 0 ps++thL ps.length (ls.take k))++[(v,1,ps.length+k)]:=by
   rw[r0]
   congr 1
   exact iG he
  refine ae (m-1) a6 ⟨k+1,a6,⟨?_,?_,?_,?_,?_,?_,?_⟩,?_⟩ <;> (simp only[go_sem,q1,q4,q5,q6,o1,o4,q16,q17])
  ·rfl
  ·rw[hT,iH]
  ·exact fun i hi=>⟨nt ((fr i hi).1),nt ((fr i hi).2)⟩
  ·exact⟨M',rfl,by rw[hT];exact mM',dM'⟩
 have hki:¬(k:Int)<(ls.length:Int):=a6
 obtain rfl:k=ls.length:=a6
 exact Ws
end
end
end Go.Proofs.YtgiigidgdhplfaaGreatDoor

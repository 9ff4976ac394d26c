/- A part of the proof; no conditions. -/
import Derived.Test.YtlglgadejgdpcaaGreatDoorPart13
set_option linter.unusedSimpArgs false
set_option linter.unusedVariables false
set_option maxHeartbeats 64000000
set_option maxRecDepth 100000
namespace Go.Proofs.YtlglgadejgdpcaaGreatDoor
section
attribute [local congr] Go.Am.ite_cc
open Go Go.Am Go.Asm
open Go.Src (Th aC bG bc bn aP)
section
variable {g:Nat→Nat}{ob:Obs}{M:List C}{B:Nat}{l:List Th}{s:St}{R:AV→(Nat→Nat)→Obs→Prop}{avs rs':List AV}
theorem aQ.nil (h:∀i,i<B→s.gen i=g i∧s.obj i=ob i) (hf:ej B s avs rs') (hr:R (pack rs') g ob):aQ B [] g ob R s avs:=
 ⟨⟨fun i hi _=>h i hi,fun _ h=>by simp at h⟩,rs',hf,by rw[BH,BI];exact hr⟩
theorem Ap (xs:List D):se B s (.agg (xs.map .d)) (.agg (xs.map .d)):=.agg a8 fun i c hc=>by
 rw[x7] at hc
 cases hq:xs[i]? with
 |none=>rw[hq] at hc;cases hc
 |some x=>rw[hq] at hc;cases hc;exact⟨_,rfl,.d x⟩
def thD (t:Nat×Nat):List D:=[.int .i64 (t.1:Nat),.int .i64 (t.2:Nat)]
def fQ (M:List C) (l:List Th):Prop:=∀s:Str,mget M (.str s)=(aC l s).map fun t=>.d (.iptr (thD t))
def jl (M:List C):Prop:=∀c∈M,∃x,c=.d x
theorem jm {k x:D}:∀{M:List C},jl M→jl (mset M k (.d x))
 |.d k'::c::r,h=>by
   simp only[mset]
   split
   ·intro y hy
    rcases x8.1 hy with rfl|hy
    ·exact⟨_,rfl⟩
    rcases x8.1 hy with rfl|hy
    ·exact⟨_,rfl⟩
    ·exact h y (by simp[hy])
   ·intro y hy
    rcases x8.1 hy with rfl|hy
    ·exact⟨_,rfl⟩
    rcases x8.1 hy with rfl|hy
    ·exact h y a8
    ·exact jm (M:=r) (fun z hz=>h z (by simp[hz])) y hy
 |[],h=>by simp[mset,jl]
 |[.d k'],h=>by simp[mset,jl]
 |.osl _ _ _ _ _::_,h=>by obtain⟨x,hx⟩:=h _ (J0 ..);cases hx
 |.ptr _ _ _::_,h=>by obtain⟨x,hx⟩:=h _ (J0 ..);cases hx
 |.mp _ _ _::_,h=>by obtain⟨x,hx⟩:=h _ (J0 ..);cases hx
 |.clo _ _::_,h=>by obtain⟨x,hx⟩:=h _ (J0 ..);cases hx
 |.lsl _::_,h=>by obtain⟨x,hx⟩:=h _ (J0 ..);cases hx
 |.raw _::_,h=>by obtain⟨x,hx⟩:=h _ (J0 ..);cases hx
theorem jl.low (h:jl M):∀c∈M,lh B c:=fun c hc=>by obtain⟨x,rfl⟩:=h c hc;trivial
theorem fQ.put{nm:Str}{t:Nat×Nat} (h:fQ M l) (hn:aC l nm=none):fQ (mset M (.str nm) (.d (.iptr (thD t)))) (l++[(nm,t)]):=fun s=>by
 rw[mj,Src.qe]
 simp only[iJ,aC]
 by_cases hs:nm=s
 ·subst hs
  rw[hn]
  simp
 ·simp only[hs,L0,B7,A3]
  rw[h s]
  cases aC l s <;> rfl
theorem fQ.old{nm:Str}{t x:Nat×Nat} (h:fQ M l) (hn:aC l nm=some x):fQ M (l++[(nm,t)]):=fun s=>by
 rw[h s,Src.qe]
 cases hf:aC l s with
 |some y=>rfl
 |none=>
   simp only[aC]
   rw[if_neg (by rintro rfl;rw[hn] at hf;cases hf)]
theorem uJ {S:List Nat}{g g':Nat→Nat} (h:∀i∈S,g' i=g i):iD S g g'=g:=by
 funext i
 unfold iD
 split
 ·exact h i j4
 ·rfl
theorem CE {a b:Nat}{ob ob':Obs}:eD [a,b] ob ob'=upd (upd ob a (ob' a)) b (ob' b):=by
 funext i
 simp only[eD,upd,x8,z7,E4]
 by_cases h1:i=b
 ·subst h1;simp
 ·by_cases h2:i=a
  ·subst h2;simp[h1]
  ·simp[h1,h2]
def pa (x:Option (Nat×Nat)):AV:=match x with|some t=>.agg ((thD t).map .d)|none=>.agg [.d (.int .i64 0),.d (.int .i64 (-1))]
theorem Jw {B io ii go gi:Nat}{Mo Mi:List C}{lo li:List Th} (hB:∀i,B≤i→ob i=none) (hlo:io<B) (hli:ii<B) (ho:ob io=some Mo) (hi:ob ii=some Mi) (mo:fQ Mo lo) (mi:fQ Mi li) (nm:Str) (hgo:g io=go) (hgi:g ii=gi) :
  dF Tryz.prog 120 [.agg [.mp io go 208,.mp ii gi 208],sv nm] g ob (fun r g' ob'=>g'=g∧ob'=ob∧r=pa (aP lo li nm)) (fun _ _ _=>False):=by
 subst hgo hgi
 refine al B [] ae mixed Tryz.func120 rfl b9 [.cell 4 227] rfl c9 c9 (by simp[Tryz.ntmps120]) a8 hB fun b₀ β0 s0 w0=>?_
 have n1:∀k,(io=B+k)=False:=fun k=>by simp;omega
 have n2:∀k,(ii=B+k)=False:=fun k=>by simp;omega
 have hlw:∀i,i<B→g i=g i∧ob i=ob i:=fun _ _=>⟨rfl,rfl⟩
 have mi1:=mi nm
 have mo1:=mo nm
 unfold aP
 cases hfi:aC li nm with
 |some t=>
   rw[hfi] at mi1
   simp only[w7,thD] at mi1
   simp only[go_sem,n1,n2,hi,C0,A8,mi1]
   refine⟨_,ah.refl _,?_⟩
   simp only[go_sem,n1,n2]
   exact aQ.nil (fun i hi=>⟨by (try simp only[upd]);(repeat rw[if_neg (by omega)]);first|done|rfl|exact(hlw i hi).1,by (try simp only[upd]);(repeat rw[if_neg (by omega)]);first|done|rfl|exact(hlw i hi).2⟩) (rs':=[pa (some t)]) ⟨_,_,rfl,Ap (thD t),rfl⟩ ⟨rfl,rfl,rfl⟩
 |none=>
   rw[hfi] at mi1
   simp only[F6] at mi1
   cases hfo:aC lo nm with
   |some t=>
     rw[hfo] at mo1
     simp only[w7,thD] at mo1
     simp only[go_sem,n1,n2,hi,C0,A8,mi1,ho,mo1]
     refine⟨_,ah.refl _,?_⟩
     simp only[go_sem,n1,n2]
     exact aQ.nil (fun i hi=>⟨by (try simp only[upd]);(repeat rw[if_neg (by omega)]);first|done|rfl|exact(hlw i hi).1,by (try simp only[upd]);(repeat rw[if_neg (by omega)]);first|done|rfl|exact(hlw i hi).2⟩) (rs':=[pa (some t)]) ⟨_,_,rfl,Ap (thD t),rfl⟩ ⟨rfl,rfl,rfl⟩
   |none=>
     rw[hfo] at mo1
     simp only[F6] at mo1
     simp only[go_sem,n1,n2,hi,C0,A8,mi1,ho,mo1]
     refine⟨_,ah.refl _,?_⟩
     simp only[go_sem,n1,n2]
     exact aQ.nil (fun i hi=>⟨by (try simp only[upd]);(repeat rw[if_neg (by omega)]);first|done|rfl|exact(hlw i hi).1,by (try simp only[upd]);(repeat rw[if_neg (by omega)]);first|done|rfl|exact(hlw i hi).2⟩) (rs':=[pa none]) ⟨_,_,rfl,Ap [.int .i64 0,.int .i64 (-1)],rfl⟩ ⟨rfl,rfl,rfl⟩
theorem aQ.two {B a b:Nat}{ca cb:List C} (h:∀i,i<B→i≠a→i≠b→s.gen i=g i∧s.obj i=ob i) (ga:s.gen a=g a) (gb:s.gen b=g b) (oa:s.obj a=some ca) (obb:s.obj b=some cb)
  (la:∀c∈ca,lh B c) (lb:∀c∈cb,lh B c) (hf:ej B s avs rs') (hr:R (pack rs') g (upd (upd ob a (some ca)) b (some cb))):aQ B [a,b] g ob R s avs:=by
 refine⟨⟨fun i hi hn=>h i hi (fun e=>hn (by simp[e])) (fun e=>hn (by simp[e])),fun i hi cells hc=>?_⟩,rs',hf,?_⟩
 ·simp only[x8,z7,E4] at hi
  rcases hi with rfl|rfl
  ·rw[oa] at hc;cases hc;exact la
  ·rw[obb] at hc;cases hc;exact lb
 ·rw[uJ (fun i hi=>by simp only[x8,z7,E4] at hi;rcases hi with rfl|rfl <;> assumption),CE,oa,obb]
  exact hr
theorem Aq{x:D}:∀c∈[C.d x],lh B c:=fun c hc=>by rw[D0.1 hc];trivial
def Oa (im cu:Nat) (l:List Th) (nm:Str) (t:Nat×Nat) (u:Bool) (g:Nat→Nat) (ob:Obs) (g':Nat→Nat) (ob':Obs):Prop:=
 g'=g∧∃M',fQ M' (l++[(nm,t)])∧jl M'∧ob'=upd (upd ob im (some M')) cu (some [.d (.bool (u&&(aC l nm).isNone))])
theorem rp {B im cm cu:Nat}{u:Bool} (hB:∀i,B≤i→ob i=none) (h1:im<B) (h2:cm<B) (h3:cu<B) (d12:im≠cm) (d13:im≠cu) (d23:cm≠cu) (hm:ob im=some M) (hcm:ob cm=some [.mp im (g im) 208]) (hcu:ob cu=some [.d (.bool u)])
  (mo:fQ M l) (hd:jl M) (nm:Str) (t:Nat×Nat) :
  dF Tryz.prog 165 [sv nm,.agg ((thD t).map .d),fE (.ptr cm (g cm) 0),fE (.ptr cu (g cu) 0)] g ob (fun _ g' ob'=>Oa im cu l nm t u g ob g' ob') (fun _ _ _=>False):=by
 refine al B [im,cu] ae mixed Tryz.func165 rfl b9 [] rfl c9 c9 (by simp[Tryz.ntmps165]) (by simp[h1,h3]) hB fun b₀ β0 s0 w0=>?_
 have n1:∀k,(im=B+k)=False:=fun k=>by simp;omega
 have n2:∀k,(cm=B+k)=False:=fun k=>by simp;omega
 have n3:∀k,(cu=B+k)=False:=fun k=>by simp;omega
 have mo1:=mo nm
 unfold thD
 cases hf:aC l nm with
 |some x=>
   rw[hf] at mo1
   simp only[w7,thD] at mo1
   simp only[go_sem,n1,n2,n3,fE,hcm,hm,C0,A8,mo1,hcu]
   refine⟨_,ah.refl _,?_⟩
   simp only[go_sem]
   refine aQ.two (ca:=M) (cb:=[.d (.bool false)]) (fun i hi ha hb=>⟨by (try simp only[upd]);(repeat rw[if_neg (by omega)]),by (try simp only[upd]);(repeat rw[if_neg (by omega)])⟩) (by (try simp only[upd]);(repeat rw[if_neg (by omega)])) (by (try simp only[upd]);(repeat rw[if_neg (by omega)])) (by simp only[upd];(repeat rw[if_neg (by omega)]);exact hm) (by simp[upd]) hd.low Aq (rs':=[]) rfl ⟨rfl,M,mo.old hf,hd,by rw[hf];simp⟩
 |none=>
   rw[hf] at mo1
   simp only[F6] at mo1
   simp only[go_sem,n1,n2,n3,fE,hcm,hm,C0,A8,mo1,hcu]
   refine⟨_,ah.refl _,?_⟩
   simp only[go_sem]
   refine aQ.two (ca:=mset M (.str nm) (.d (.iptr (thD t)))) (cb:=[.d (.bool u)]) (fun i hi ha hb=>⟨by (try simp only[upd]);(repeat rw[if_neg (by omega)]),by (try simp only[upd]);(repeat rw[if_neg (by omega)])⟩) (by (try simp only[upd]);(repeat rw[if_neg (by omega)])) (by (try simp only[upd]);(repeat rw[if_neg (by omega)])) (by simp[upd,thD]) (by simp only[upd];rw[if_neg (y9 d13)];(repeat rw[if_neg (by omega)]);exact hcu) (jm hd).low Aq (rs':=[]) rfl ⟨rfl,_,mo.put hf,jm hd,by rw[hf];simp⟩
theorem vY {B im cm cu:Nat}{u:Bool} (hB:∀i,B≤i→ob i=none) (h1:im<B) (h2:cm<B) (h3:cu<B) (d12:im≠cm) (d13:im≠cu) (d23:cm≠cu) (hm:ob im=some M) (hcm:ob cm=some [.mp im (g im) 208]) (hcu:ob cu=some [.d (.bool u)])
  (mo:fQ M l) (hd:jl M) (nm:Str) (k:Nat) :
  dF Tryz.prog 166 [sv nm,iv .i64 (k:Nat),fE (.ptr cm (g cm) 0),fE (.ptr cu (g cu) 0)] g ob (fun _ g' ob'=>Oa im cu l nm (1,k) u g ob g' ob') (fun _ _ _=>False):=by
 refine al B [im,cu] ae mixed Tryz.func166 rfl b9 [] rfl c9 c9 (by simp[Tryz.ntmps166]) (by simp[h1,h3]) hB fun b₀ β0 s0 w0=>?_
 have n1:∀k,(im=B+k)=False:=fun k=>by simp;omega
 have n2:∀k,(cm=B+k)=False:=fun k=>by simp;omega
 have n3:∀k,(cu=B+k)=False:=fun k=>by simp;omega
 have mo1:=mo nm
 cases hf:aC l nm with
 |some x=>
   rw[hf] at mo1
   simp only[w7,thD] at mo1
   simp only[go_sem,n1,n2,n3,fE,hcm,hm,C0,A8,mo1,hcu]
   refine⟨_,ah.refl _,?_⟩
   simp only[go_sem]
   refine aQ.two (ca:=M) (cb:=[.d (.bool false)]) (fun i hi ha hb=>⟨by (try simp only[upd]);(repeat rw[if_neg (by omega)]),by (try simp only[upd]);(repeat rw[if_neg (by omega)])⟩) (by (try simp only[upd]);(repeat rw[if_neg (by omega)])) (by (try simp only[upd]);(repeat rw[if_neg (by omega)])) (by simp only[upd];(repeat rw[if_neg (by omega)]);exact hm) (by simp[upd]) hd.low Aq (rs':=[]) rfl ⟨rfl,M,mo.old hf,hd,by rw[hf];simp⟩
 |none=>
   rw[hf] at mo1
   simp only[F6] at mo1
   simp only[go_sem,n1,n2,n3,fE,hcm,hm,C0,A8,mo1,hcu]
   refine⟨_,ah.refl _,?_⟩
   simp only[go_sem]
   refine aQ.two (ca:=mset M (.str nm) (.d (.iptr (thD (1,k))))) (cb:=[.d (.bool u)]) (fun i hi ha hb=>⟨by (try simp only[upd]);(repeat rw[if_neg (by omega)]),by (try simp only[upd]);(repeat rw[if_neg (by omega)])⟩) (by (try simp only[upd]);(repeat rw[if_neg (by omega)])) (by (try simp only[upd]);(repeat rw[if_neg (by omega)])) (by simp[upd,thD]) (by simp only[upd];rw[if_neg (y9 d13)];(repeat rw[if_neg (by omega)]);exact hcu) (jm hd).low Aq (rs':=[]) rfl ⟨rfl,_,mo.put hf,jm hd,by rw[hf];simp⟩
end
end
section
attribute [local congr] Go.Am.ite_cc
open Go Go.Am Go.Asm
open Go.Src (Th aC bG bc bn aP thV thA thF thL)
section
theorem iA {α β:Type}{f:Nat→α→β}{l:List α}{k:Nat}{x:α} (h:l[k]? = some x):(l.take (k+1)).mapIdx f=(l.take k).mapIdx f++[f k x]:=by
 have hk:=(l5.1 h).1
 rw[A7,h,H3,List.mapIdx_concat,B9,Nat.min_eq_left a7]
structure GlI (B:Nat) (l:List Th) (g:Nat→Nat) (ob:Obs) (f:Nat) (p:List C) (st:St):Prop where
 f1:st.f 1=.one (.ptr (B+1) (st.gen (B+1)) 0)
 f4:st.f 4=.one (.ptr (B+4) (st.gen (B+4)) 0)
 f5:st.f 5=.one (.ptr (B+5) (st.gen (B+5)) 0)
 f6:st.f 6=.one (.clo f [.ptr (B+4) (st.gen (B+4)) 0,.ptr (B+5) (st.gen (B+5)) 0])
 o1:st.obj (B+1)=some p
 o5:st.obj (B+5)=some [.d (.bool (bG [] l))]
 fr:∀i,i<B∨B+100≤i→st.gen i=g i∧st.obj i=ob i
def GlR (im B:Nat) (l:List Th) (g:Nat→Nat) (ob:Obs) (r:AV) (g':Nat→Nat) (ob':Obs):Prop:=
 r=.tup [.one (.mp im (g' im) 208),bv (bG [] l)]∧(∃M,ob' im=some M∧fQ M l∧jl M)∧∀i,i<B∨B+100≤i→g' i=g i∧ob' i=ob i
theorem iB {l:List Th}{t:Th}:bG [] (l++[t])=(bG [] l&&(aC l t.1).isNone):=by rw[Src.ou];rfl
variable {g:Nat→Nat}
theorem Ar{ob:Obs}{p:Src.Prog} (hfree:∀i,1100≤i→ob i=none) (hsz:szP p≤1000000000) :
  dF Tryz.prog 116 [ep p] g ob (GlR 1013 1000 (bc p) g ob) (fun _ _ _=>False):=by
 refine dU 1000 ae mixed Tryz.func116 rfl b9 [.tmp 2,.tmp 3] rfl c9 c9 (by simp[Tryz.ntmps116]) fun b₀ β0 s0 w0=>?_
 obtain⟨vs,ars,fs⟩:=p
 unfold szP at hsz
 simp only at hsz
 obtain⟨L,hL⟩:∃L,bc ⟨vs,ars,fs⟩=L:=⟨_,rfl⟩
 rw[hL]
 unfold bc at hL
 simp only at hL
 unfold ep iO
 simp only[go_sem,j6]
 refine ak (fun m st=>∃k:Nat,m+k=vs.length∧GlI 1000 (thV (vs.take k)) g ob 165 (gt ⟨vs,ars,fs⟩) st∧st.obj 1004=some [.mp 1013 (st.gen 1013) 208]∧(∃M,st.obj 1013=some M∧fQ M (thV (vs.take k))∧jl M)∧st.f 16=.one (.d (.sl (vs.map fun s=>[.str s])))∧st.f 17=iv .i64 vs.length∧st.f 18=iv .i64 k) vs.length ?_ ?_
 ·refine⟨0,rfl,⟨?_,?_,?_,?_,?_,?_,?_⟩,?_⟩ <;> (simp only[go_sem])
  ·rfl
  ·rfl
  ·exact fun i hi=>⟨nu,nu⟩
  ·exact⟨[],rfl,fun s=>rfl,fun c hc=>by cases hc⟩
 rintro m f g1 ob1 ⟨k,hk,⟨q1,q4,q5,q6,o1,o5,fr⟩,o4,⟨M,oM,mM,dM⟩,q16,q17,q18⟩
 simp only[Nat.reduceAdd] at q1 q4 q5 q6 o1 o5 fr o4 oM q16 q17 q18
 have hw:=am (k:=k) a7
 by_cases hlt:k<vs.length
 ·have hki:(k:Int)<(vs.length:Int):=a7
  have hk0:(0:Int)≤(k:Int):=a7
  obtain⟨v,he⟩:=getq hlt
  simp only[go_sem,q6,q16,q17,q18,hki,hk0,he]
  refine aG (f:=165) (caps:=[.ptr 1004 (g1 1004) 0,.ptr 1005 (g1 1005) 0]) aa rfl (by simp only[go_sem,q6]) (by simp only[go_sem];exact rp (B:=1100) (im:=1013) (cm:=1004) (cu:=1005) (fun i hi=>by rw[(fr i a7).2];exact hfree i hi) c8 c8 c8 c8 c8 c8 oM o4 o5 mM dM v (2,k)) ?_ ?_
  ·exact fun _ _ _ h=>h.elim
  rintro _ g' ob' ⟨rfl,M',mM',dM',rfl⟩
  simp only[go_sem,q18,hw]
  have hT:thV (vs.take (k+1))=thV (vs.take k)++[(v,2,k)]:=iA he
  refine ai (m-1) a7 ⟨k+1,a7,⟨?_,?_,?_,?_,?_,?_,?_⟩,?_⟩ <;> (simp only[go_sem,q1,q4,q5,q6,o1,o4,q16,q17])
  ·rw[hT,iB]
  ·exact fun i hi=>⟨(fr i hi).1,nt ((fr i hi).2)⟩
  ·exact⟨M',rfl,by rw[hT];exact mM',dM'⟩
 have hki:¬(k:Int)<(vs.length:Int):=a7
 obtain rfl:k=vs.length:=a7
 unfold gt iO at o1
 simp only[l7,v7] at o1
 simp only[go_sem,q1,o1,q17,q18,hki,j6]
 refine ak (fun m st=>∃k:Nat,m+k=ars.length∧GlI 1000 (thV vs++thA (ars.take k)) g ob 165 (gt ⟨vs,ars,fs⟩) st∧st.obj 1004=some [.mp 1013 (st.gen 1013) 208]∧(∃M,st.obj 1013=some M∧fQ M (thV vs++thA (ars.take k))∧jl M)∧st.f 30=.one (.d (.sl (ars.map arD)))∧st.f 31=iv .i64 ars.length∧st.f 32=iv .i64 k) ars.length ?_ ?_
 ·rw[l6 (l4 _)] at o5 mM
  have hT0:thV vs++thA []=thV vs:=by simp[thA]
  refine⟨0,rfl,⟨?_,?_,?_,?_,?_,?_,?_⟩,?_⟩ <;> (simp only[go_sem,q1,q4,q5,q6,o1,o4,o5,hT0])
  ·rfl
  ·exact fr
  ·exact⟨M,oM,mM,dM⟩
 clear q1 q4 q5 q6 o1 o5 fr o4 oM q16 q17 q18 mM dM hw hlt hki hk M
 rintro m f g1 ob1 ⟨k,hk,⟨q1,q4,q5,q6,o1,o5,fr⟩,o4,⟨M,oM,mM,dM⟩,q16,q17,q18⟩
 simp only[Nat.reduceAdd] at q1 q4 q5 q6 o1 o5 fr o4 oM q16 q17 q18
 have hw:=am (k:=k) a7
 by_cases hlt:k<ars.length
 ·have hki:(k:Int)<(ars.length:Int):=a7
  have hk0:(0:Int)≤(k:Int):=a7
  obtain⟨⟨v,z⟩,he⟩:=getq hlt
  have n4:=(fr 1100 a7).2
  simp only[go_sem,q6,q16,q17,q18,hki,hk0,he,arD]
  refine aG (f:=165) (caps:=[.ptr 1004 (g1 1004) 0,.ptr 1005 (g1 1005) 0]) aa rfl (by simp only[go_sem,q6]) (by simp only[go_sem];exact rp (B:=1100) (im:=1013) (cm:=1004) (cu:=1005) (fun i hi=>by (try simp only[upd]);(repeat rw[if_neg (by omega)]);rw[(fr i (by omega)).2];exact hfree i hi) (by decide) (by decide) (by decide) (by decide) (by decide) (by decide) (by simp[upd];exact oM) (by simp[upd];exact o4) (by simp[upd];exact o5) mM dM v (3,k)) ?_ ?_
  ·exact fun _ _ _ h=>h.elim
  rintro _ g' ob' ⟨rfl,M',mM',dM',rfl⟩
  simp only[go_sem,q18,hw]
  have hT:thV vs++thA (ars.take (k+1))=(thV vs++thA (ars.take k))++[(v,3,k)]:=by
   rw[s6]
   congr 1
   exact iA he
  refine ai (m-1) a7 ⟨k+1,a7,⟨?_,?_,?_,?_,?_,?_,?_⟩,?_⟩ <;> (simp only[go_sem,q1,q4,q5,q6,o1,o4,q16,q17])
  ·rw[hT,iB]
  ·exact fun i hi=>⟨nt ((fr i hi).1),nt ((fr i hi).2)⟩
  ·exact⟨M',rfl,by rw[hT];exact mM',dM'⟩
 have hki:¬(k:Int)<(ars.length:Int):=a7
 obtain rfl:k=ars.length:=a7
 unfold gt iO at o1
 simp only[l7,v7] at o1
 simp only[go_sem,q1,o1,q17,q18,hki,j6]
 refine ak (fun m st=>∃k:Nat,m+k=fs.length∧GlI 1000 (thV vs++thA ars++thF (fs.take k)) g ob 165 (gt ⟨vs,ars,fs⟩) st∧st.obj 1004=some [.mp 1013 (st.gen 1013) 208]∧(∃M,st.obj 1013=some M∧fQ M (thV vs++thA ars++thF (fs.take k))∧jl M)∧st.f 45=.one (.d (.sl (fs.map fnD)))∧st.f 46=iv .i64 fs.length∧st.f 47=iv .i64 k) fs.length ?_ ?_
 ·rw[l6 (l4 _)] at o5 mM
  have hT0:thV vs++thA ars++thF []=thV vs++thA ars:=by simp[thF]
  refine⟨0,rfl,⟨?_,?_,?_,?_,?_,?_,?_⟩,?_⟩ <;> (simp only[go_sem,q1,q4,q5,q6,o1,o4,o5,hT0])
  ·rfl
  ·exact fr
  ·exact⟨M,oM,mM,dM⟩
 clear q1 q4 q5 q6 o1 o5 fr o4 oM q16 q17 q18 mM dM hw hlt hki hk M
 rintro m f g1 ob1 ⟨k,hk,⟨q1,q4,q5,q6,o1,o5,fr⟩,o4,⟨M,oM,mM,dM⟩,q16,q17,q18⟩
 simp only[Nat.reduceAdd] at q1 q4 q5 q6 o1 o5 fr o4 oM q16 q17 q18
 have hw:=am (k:=k) a7
 by_cases hlt:k<fs.length
 ·have hki:(k:Int)<(fs.length:Int):=a7
  have hk0:(0:Int)≤(k:Int):=a7
  obtain⟨x,he⟩:=getq hlt
  simp only[go_sem,q6,q16,q17,q18,hki,hk0,he,fnD]
  refine aG (f:=165) (caps:=[.ptr 1004 (g1 1004) 0,.ptr 1005 (g1 1005) 0]) aa rfl (by simp only[go_sem,q6]) (by simp only[go_sem];exact rp (B:=1100) (im:=1013) (cm:=1004) (cu:=1005) (fun i hi=>by (try simp only[upd]);(repeat rw[if_neg (by omega)]);rw[(fr i (by omega)).2];exact hfree i hi) (by decide) (by decide) (by decide) (by decide) (by decide) (by decide) (by simp[upd];exact oM) (by simp[upd];exact o4) (by simp[upd];exact o5) mM dM x.name (4,k)) ?_ ?_
  ·exact fun _ _ _ h=>h.elim
  rintro _ g' ob' ⟨rfl,M',mM',dM',rfl⟩
  simp only[go_sem,q18,hw]
  have hT:thV vs++thA ars++thF (fs.take (k+1))=(thV vs++thA ars++thF (fs.take k))++[(x.name,4,k)]:=by
   rw[s6 (thV vs++thA ars)]
   congr 1
   exact iA he
  refine ai (m-1) a7 ⟨k+1,a7,⟨?_,?_,?_,?_,?_,?_,?_⟩,?_⟩ <;> (simp only[go_sem,q1,q4,q5,q6,o1,o4,q16,q17])
  ·rw[hT,iB]
  ·exact fun i hi=>⟨nt ((fr i hi).1),nt ((fr i hi).2)⟩
  ·exact⟨M',rfl,by rw[hT];exact mM',dM'⟩
 have hki:¬(k:Int)<(fs.length:Int):=a7
 obtain rfl:k=fs.length:=a7
 rw[l6 (l4 _),hL] at o5 mM
 simp only[go_sem,q17,q18,hki]
 refine aI j0 ?_
 simp only[go_sem,q4,q5,o4,o5]
 refine⟨_,ah.refl _,?_⟩
 simp only[go_sem]
 exact⟨rfl,⟨M,oM,mM,dM⟩,fr⟩
theorem CF{ob:Obs}{x:Src.Fn} (hfree:∀i,2100≤i→ob i=none) (hsz:x.params.length+x.locals.length≤1000000000) :
  dF Tryz.prog 117 [fnV x] g ob (GlR 2011 2000 (bn x) g ob) (fun _ _ _=>False):=by
 refine dU 2000 ae mixed Tryz.func117 rfl b9 [.tmp 2,.tmp 3] rfl c9 c9 (by simp[Tryz.ntmps117]) fun b₀ β0 s0 w0=>?_
 obtain⟨nm,ps,ls,wd,body⟩:=x
 simp only at hsz
 obtain⟨L,hL⟩:∃L,bn ⟨nm,ps,ls,wd,body⟩=L:=⟨_,rfl⟩
 rw[hL]
 unfold bn at hL
 simp only at hL
 unfold fnV fnD
 simp only[go_sem,j6]
 refine ak (fun m st=>∃k:Nat,m+k=ps.length∧GlI 2000 (thL 0 (ps.take k)) g ob 166 ((fnD ⟨nm,ps,ls,wd,body⟩).map .d) st∧st.obj 2004=some [.mp 2011 (st.gen 2011) 208]∧(∃M,st.obj 2011=some M∧fQ M (thL 0 (ps.take k))∧jl M)∧st.f 14=.one (.d (.sl (ps.map fun s=>[.str s])))∧st.f 15=iv .i64 ps.length∧st.f 16=iv .i64 k) ps.length ?_ ?_
 ·refine⟨0,rfl,⟨?_,?_,?_,?_,?_,?_,?_⟩,?_⟩ <;> (simp only[go_sem])
  ·rfl
  ·rfl
  ·exact fun i hi=>⟨nu,nu⟩
  ·exact⟨[],rfl,fun s=>rfl,fun c hc=>by cases hc⟩
 rintro m f g1 ob1 ⟨k,hk,⟨q1,q4,q5,q6,o1,o5,fr⟩,o4,⟨M,oM,mM,dM⟩,q16,q17,q18⟩
 simp only[Nat.reduceAdd] at q1 q4 q5 q6 o1 o5 fr o4 oM q16 q17 q18
 have hw:=am (k:=k) a7
 by_cases hlt:k<ps.length
 ·have hki:(k:Int)<(ps.length:Int):=a7
  have hk0:(0:Int)≤(k:Int):=a7
  obtain⟨v,he⟩:=getq hlt
  simp only[go_sem,q6,q16,q17,q18,hki,hk0,he]
  refine aG (f:=166) (caps:=[.ptr 2004 (g1 2004) 0,.ptr 2005 (g1 2005) 0]) aa rfl (by simp only[go_sem,q6]) (by simp only[go_sem];exact vY (B:=2100) (im:=2011) (cm:=2004) (cu:=2005) (fun i hi=>by rw[(fr i a7).2];exact hfree i hi) c8 c8 c8 c8 c8 c8 oM o4 o5 mM dM v k) ?_ ?_
  ·exact fun _ _ _ h=>h.elim
  rintro _ g' ob' ⟨rfl,M',mM',dM',rfl⟩
  simp only[go_sem,q18,hw]
  have hT:thL 0 (ps.take (k+1))=thL 0 (ps.take k)++[(v,1,k)]:=by
   have:=iA (f:=fun i n=>((n,1,0+i):Th)) he
   simpa[thL] using this
  refine ai (m-1) a7 ⟨k+1,a7,⟨?_,?_,?_,?_,?_,?_,?_⟩,?_⟩ <;> (simp only[go_sem,q1,q4,q5,q6,o1,o4,q16,q17])
  ·rw[hT,iB]
  ·exact fun i hi=>⟨(fr i hi).1,nt ((fr i hi).2)⟩
  ·exact⟨M',rfl,by rw[hT];exact mM',dM'⟩
 have hki:¬(k:Int)<(ps.length:Int):=a7
 obtain rfl:k=ps.length:=a7
 unfold fnD at o1
 simp only[l7,v7] at o1
 simp only[go_sem,q1,o1,q17,q18,hki,j6]
 refine ak (fun m st=>∃k:Nat,m+k=ls.length∧GlI 2000 (thL 0 ps++thL ps.length (ls.take k)) g ob 166 ((fnD ⟨nm,ps,ls,wd,body⟩).map .d) st∧st.obj 2004=some [.mp 2011 (st.gen 2011) 208]∧(∃M,st.obj 2011=some M∧fQ M (thL 0 ps++thL ps.length (ls.take k))∧jl M)∧st.f 27=.one (.d (.sl (ls.map fun s=>[.str s])))∧st.f 28=iv .i64 ls.length∧st.f 29=iv .i64 k) ls.length ?_ ?_
 ·rw[l6 (l4 _)] at o5 mM
  have hT0:thL 0 ps++thL ps.length []=thL 0 ps:=by simp[thL]
  refine⟨0,rfl,⟨?_,?_,?_,?_,?_,?_,?_⟩,?_⟩ <;> (simp only[go_sem,q1,q4,q5,q6,o1,o4,o5,hT0])
  ·rfl
  ·exact fr
  ·exact⟨M,oM,mM,dM⟩
 clear q1 q4 q5 q6 o1 o5 fr o4 oM q16 q17 q18 mM dM hw hlt hki hk M
 rintro m f g1 ob1 ⟨k,hk,⟨q1,q4,q5,q6,o1,o5,fr⟩,o4,⟨M,oM,mM,dM⟩,q16,q17,q18⟩
 simp only[Nat.reduceAdd] at q1 q4 q5 q6 o1 o5 fr o4 oM q16 q17 q18
 have hw:=am (k:=k) a7
 by_cases hlt:k<ls.length
 ·have hki:(k:Int)<(ls.length:Int):=a7
  have hk0:(0:Int)≤(k:Int):=a7
  have hwk:IntKind.i64.wrap ((ps.length:Int)+(k:Int))=((ps.length+k:Nat):Int):=by rw[wrap_i64] <;> omega
  obtain⟨v,he⟩:=getq hlt
  unfold fnD at o1
  simp only[l7,v7] at o1
  simp only[go_sem,q1,o1,q6,q16,q17,q18,hki,hk0,he,j6,hwk]
  refine aG (f:=166) (caps:=[.ptr 2004 (g1 2004) 0,.ptr 2005 (g1 2005) 0]) aa rfl (by simp only[go_sem,q6]) (by simp only[go_sem];exact vY (B:=2100) (im:=2011) (cm:=2004) (cu:=2005) (fun i hi=>by (try simp only[upd]);(repeat rw[if_neg (by omega)]);rw[(fr i (by omega)).2];exact hfree i hi) (by decide) (by decide) (by decide) (by decide) (by decide) (by decide) oM o4 o5 mM dM v (ps.length+k)) ?_ ?_
  ·exact fun _ _ _ h=>h.elim
  rintro _ g' ob' ⟨rfl,M',mM',dM',rfl⟩
  simp only[go_sem,q18,hw]
  have hT:thL 0 ps++thL ps.length (ls.take (k+1))=(thL 0 ps++thL ps.length (ls.take k))++[(v,1,ps.length+k)]:=by
   rw[s6]
   congr 1
   exact iA he
  refine ai (m-1) a7 ⟨k+1,a7,⟨?_,?_,?_,?_,?_,?_,?_⟩,?_⟩ <;> (simp only[go_sem,q1,q4,q5,q6,o1,o4,q16,q17])
  ·rfl
  ·rw[hT,iB]
  ·exact fun i hi=>⟨nt ((fr i hi).1),nt ((fr i hi).2)⟩
  ·exact⟨M',rfl,by rw[hT];exact mM',dM'⟩
 have hki:¬(k:Int)<(ls.length:Int):=a7
 obtain rfl:k=ls.length:=a7
 rw[l6 (l4 _),hL] at o5 mM
 simp only[go_sem,q17,q18,hki]
 refine aI j0 ?_
 simp only[go_sem,q4,q5,o4,o5]
 refine⟨_,ah.refl _,?_⟩
 simp only[go_sem]
 exact⟨rfl,⟨M,oM,mM,dM⟩,fr⟩
end
end
end Go.Proofs.YtlglgadejgdpcaaGreatDoor

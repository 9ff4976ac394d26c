/- A part of the proof; no conditions. -/
import Derived.Test.YtbojbioflppbdaaGreatDoorPart11
set_option linter.unusedSimpArgs false
set_option linter.unusedVariables false
set_option maxHeartbeats 64000000
set_option maxRecDepth 100000
namespace Go.Proofs.YtbojbioflppbdaaGreatDoor
section
attribute [local congr] Go.Am.ite_cc
open Go Go.Am Go.Asm
open Go.Src (Th aK bL bm bt aX)
section
variable {g:Nat→Nat}{ob:Obs}{M:List C}{B:Nat}{l:List Th}{s:St}{R:AV→(Nat→Nat)→Obs→Prop}{avs rs':List AV}
theorem aY.nil (h:∀i,i<B→s.gen i=g i∧s.obj i=ob i) (hf:eI B s avs rs') (hr:R (pack rs') g ob):aY B [] g ob R s avs:=
 ⟨⟨fun i hi _=>h i hi,fun _ h=>by simp at h⟩,rs',hf,by rw[Cl,Cm];exact hr⟩
theorem AJ (xs:List D):sH B s (.agg (xs.map .d)) (.agg (xs.map .d)):=.agg a7 fun i c hc=>by
 rw[x7] at hc
 cases hq:xs[i]? with
 |none=>rw[hq] at hc;cases hc
 |some x=>rw[hq] at hc;cases hc;exact⟨_,rfl,.d x⟩
def thD (t:Nat×Nat):List D:=[.int .i64 (t.1:Nat),.int .i64 (t.2:Nat)]
def fX (M:List C) (l:List Th):Prop:=∀s:Str,mget M (.str s)=(aK l s).map fun t=>.d (.iptr (thD t))
def jw (M:List C):Prop:=∀c∈M,∃x,c=.d x
theorem jx {k x:D}:∀{M:List C},jw M→jw (mset M k (.d x))
 |.d k'::c::r,h=>by
   simp only[mset]
   split
   ·intro y hy
    rcases x9.1 hy with rfl|hy
    ·exact⟨_,rfl⟩
    rcases x9.1 hy with rfl|hy
    ·exact⟨_,rfl⟩
    ·exact h y (by simp[hy])
   ·intro y hy
    rcases x9.1 hy with rfl|hy
    ·exact⟨_,rfl⟩
    rcases x9.1 hy with rfl|hy
    ·exact h y a7
    ·exact jx (M:=r) (fun z hz=>h z (by simp[hz])) y hy
 |[],h=>by simp[mset,jw]
 |[.d k'],h=>by simp[mset,jw]
 |.osl _ _ _ _ _::_,h=>by obtain⟨x,hx⟩:=h _ (I3 ..);cases hx
 |.ptr _ _ _::_,h=>by obtain⟨x,hx⟩:=h _ (I3 ..);cases hx
 |.mp _ _ _::_,h=>by obtain⟨x,hx⟩:=h _ (I3 ..);cases hx
 |.clo _ _::_,h=>by obtain⟨x,hx⟩:=h _ (I3 ..);cases hx
 |.lsl _::_,h=>by obtain⟨x,hx⟩:=h _ (I3 ..);cases hx
 |.raw _::_,h=>by obtain⟨x,hx⟩:=h _ (I3 ..);cases hx
theorem jw.low (h:jw M):∀c∈M,lE B c:=fun c hc=>by obtain⟨x,rfl⟩:=h c hc;trivial
theorem fX.put{nm:Str}{t:Nat×Nat} (h:fX M l) (hn:aK l nm=none):fX (mset M (.str nm) (.d (.iptr (thD t)))) (l++[(nm,t)]):=fun s=>by
 rw[mA,Src.qm]
 simp only[iV,aK]
 by_cases hs:nm=s
 ·subst hs
  rw[hn]
  simp
 ·simp only[hs,J4,B5,A6]
  rw[h s]
  cases aK l s <;> rfl
theorem fX.old{nm:Str}{t x:Nat×Nat} (h:fX M l) (hn:aK l nm=some x):fX M (l++[(nm,t)]):=fun s=>by
 rw[h s,Src.qm]
 cases hf:aK l s with
 |some y=>rfl
 |none=>
   simp only[aK]
   rw[if_neg (by rintro rfl;rw[hn] at hf;cases hf)]
theorem uU {S:List Nat}{g g':Nat→Nat} (h:∀i∈S,g' i=g i):iO S g g'=g:=by
 funext i
 unfold iO
 split
 ·exact h i j0
 ·rfl
theorem Di {a b:Nat}{ob ob':Obs}:eQ [a,b] ob ob'=upd (upd ob a (ob' a)) b (ob' b):=by
 funext i
 simp only[eQ,upd,x9,A1,E4]
 by_cases h1:i=b
 ·subst h1;simp
 ·by_cases h2:i=a
  ·subst h2;simp[h1]
  ·simp[h1,h2]
def pn (x:Option (Nat×Nat)):AV:=match x with|some t=>.agg ((thD t).map .d)|none=>.agg [.d (.int .i64 0),.d (.int .i64 (-1))]
theorem Ka {B io ii go gi:Nat}{Mo Mi:List C}{lo li:List Th} (hB:∀i,B≤i→ob i=none) (hlo:io<B) (hli:ii<B) (ho:ob io=some Mo) (hi:ob ii=some Mi) (mo:fX Mo lo) (mi:fX Mi li) (nm:Str) (hgo:g io=go) (hgi:g ii=gi) :
  eJ Tryz.prog 91 [.agg [.mp io go 208,.mp ii gi 208],sv nm] g ob (fun r g' ob'=>g'=g∧ob'=ob∧r=pn (aX lo li nm)) (fun _ _ _=>False):=by
 subst hgo hgi
 refine al B [] ac mixed Tryz.func91 rfl b9 [.cell 4 185] rfl c8 c8 (by simp[Tryz.ntmps91]) a7 hB fun b₀ β0 s0 w0=>?_
 have n1:∀k,(io=B+k)=False:=fun k=>by simp;omega
 have n2:∀k,(ii=B+k)=False:=fun k=>by simp;omega
 have hlw:∀i,i<B→g i=g i∧ob i=ob i:=fun _ _=>⟨rfl,rfl⟩
 have mi1:=mi nm
 have mo1:=mo nm
 unfold aX
 cases hfi:aK li nm with
 |some t=>
   rw[hfi] at mi1
   simp only[w8,thD] at mi1
   simp only[go_sem,n1,n2,hi,C6,B3,mi1]
   refine⟨_,ag.refl _,?_⟩
   simp only[go_sem,n1,n2]
   exact aY.nil (fun i hi=>⟨by (try simp only[upd]);(repeat rw[if_neg (by omega)]);first|done|rfl|exact(hlw i hi).1,by (try simp only[upd]);(repeat rw[if_neg (by omega)]);first|done|rfl|exact(hlw i hi).2⟩) (rs':=[pn (some t)]) ⟨_,_,rfl,AJ (thD t),rfl⟩ ⟨rfl,rfl,rfl⟩
 |none=>
   rw[hfi] at mi1
   simp only[G3] at mi1
   cases hfo:aK lo nm with
   |some t=>
     rw[hfo] at mo1
     simp only[w8,thD] at mo1
     simp only[go_sem,n1,n2,hi,C6,B3,mi1,ho,mo1]
     refine⟨_,ag.refl _,?_⟩
     simp only[go_sem,n1,n2]
     exact aY.nil (fun i hi=>⟨by (try simp only[upd]);(repeat rw[if_neg (by omega)]);first|done|rfl|exact(hlw i hi).1,by (try simp only[upd]);(repeat rw[if_neg (by omega)]);first|done|rfl|exact(hlw i hi).2⟩) (rs':=[pn (some t)]) ⟨_,_,rfl,AJ (thD t),rfl⟩ ⟨rfl,rfl,rfl⟩
   |none=>
     rw[hfo] at mo1
     simp only[G3] at mo1
     simp only[go_sem,n1,n2,hi,C6,B3,mi1,ho,mo1]
     refine⟨_,ag.refl _,?_⟩
     simp only[go_sem,n1,n2]
     exact aY.nil (fun i hi=>⟨by (try simp only[upd]);(repeat rw[if_neg (by omega)]);first|done|rfl|exact(hlw i hi).1,by (try simp only[upd]);(repeat rw[if_neg (by omega)]);first|done|rfl|exact(hlw i hi).2⟩) (rs':=[pn none]) ⟨_,_,rfl,AJ [.int .i64 0,.int .i64 (-1)],rfl⟩ ⟨rfl,rfl,rfl⟩
theorem aY.two {B a b:Nat}{ca cb:List C} (h:∀i,i<B→i≠a→i≠b→s.gen i=g i∧s.obj i=ob i) (ga:s.gen a=g a) (gb:s.gen b=g b) (oa:s.obj a=some ca) (obb:s.obj b=some cb)
  (la:∀c∈ca,lE B c) (lb:∀c∈cb,lE B c) (hf:eI B s avs rs') (hr:R (pack rs') g (upd (upd ob a (some ca)) b (some cb))):aY B [a,b] g ob R s avs:=by
 refine⟨⟨fun i hi hn=>h i hi (fun e=>hn (by simp[e])) (fun e=>hn (by simp[e])),fun i hi cells hc=>?_⟩,rs',hf,?_⟩
 ·simp only[x9,A1,E4] at hi
  rcases hi with rfl|rfl
  ·rw[oa] at hc;cases hc;exact la
  ·rw[obb] at hc;cases hc;exact lb
 ·rw[uU (fun i hi=>by simp only[x9,A1,E4] at hi;rcases hi with rfl|rfl <;> assumption),Di,oa,obb]
  exact hr
theorem AK{x:D}:∀c∈[C.d x],lE B c:=fun c hc=>by rw[C5.1 hc];trivial
def Ou (im cu:Nat) (l:List Th) (nm:Str) (t:Nat×Nat) (u:Bool) (g:Nat→Nat) (ob:Obs) (g':Nat→Nat) (ob':Obs):Prop:=
 g'=g∧∃M',fX M' (l++[(nm,t)])∧jw M'∧ob'=upd (upd ob im (some M')) cu (some [.d (.bool (u&&(aK l nm).isNone))])
theorem rP {B im cm cu:Nat}{u:Bool} (hB:∀i,B≤i→ob i=none) (h1:im<B) (h2:cm<B) (h3:cu<B) (d12:im≠cm) (d13:im≠cu) (d23:cm≠cu) (hm:ob im=some M) (hcm:ob cm=some [.mp im (g im) 208]) (hcu:ob cu=some [.d (.bool u)])
  (mo:fX M l) (hd:jw M) (nm:Str) (t:Nat×Nat) :
  eJ Tryz.prog 134 [sv nm,.agg ((thD t).map .d),jc (.ptr cm (g cm) 0),jc (.ptr cu (g cu) 0)] g ob (fun _ g' ob'=>Ou im cu l nm t u g ob g' ob') (fun _ _ _=>False):=by
 refine al B [im,cu] ac mixed Tryz.func134 rfl b9 [] rfl c8 c8 (by simp[Tryz.ntmps134]) (by simp[h1,h3]) hB fun b₀ β0 s0 w0=>?_
 have n1:∀k,(im=B+k)=False:=fun k=>by simp;omega
 have n2:∀k,(cm=B+k)=False:=fun k=>by simp;omega
 have n3:∀k,(cu=B+k)=False:=fun k=>by simp;omega
 have mo1:=mo nm
 unfold thD
 cases hf:aK l nm with
 |some x=>
   rw[hf] at mo1
   simp only[w8,thD] at mo1
   simp only[go_sem,n1,n2,n3,jc,hcm,hm,C6,B3,mo1,hcu]
   refine⟨_,ag.refl _,?_⟩
   simp only[go_sem]
   refine aY.two (ca:=M) (cb:=[.d (.bool false)]) (fun i hi ha hb=>⟨by (try simp only[upd]);(repeat rw[if_neg (by omega)]),by (try simp only[upd]);(repeat rw[if_neg (by omega)])⟩) (by (try simp only[upd]);(repeat rw[if_neg (by omega)])) (by (try simp only[upd]);(repeat rw[if_neg (by omega)])) (by simp only[upd];(repeat rw[if_neg (by omega)]);exact hm) (by simp[upd]) hd.low AK (rs':=[]) rfl ⟨rfl,M,mo.old hf,hd,by rw[hf];simp⟩
 |none=>
   rw[hf] at mo1
   simp only[G3] at mo1
   simp only[go_sem,n1,n2,n3,jc,hcm,hm,C6,B3,mo1,hcu]
   refine⟨_,ag.refl _,?_⟩
   simp only[go_sem]
   refine aY.two (ca:=mset M (.str nm) (.d (.iptr (thD t)))) (cb:=[.d (.bool u)]) (fun i hi ha hb=>⟨by (try simp only[upd]);(repeat rw[if_neg (by omega)]),by (try simp only[upd]);(repeat rw[if_neg (by omega)])⟩) (by (try simp only[upd]);(repeat rw[if_neg (by omega)])) (by (try simp only[upd]);(repeat rw[if_neg (by omega)])) (by simp[upd,thD]) (by simp only[upd];rw[if_neg (z6 d13)];(repeat rw[if_neg (by omega)]);exact hcu) (jx hd).low AK (rs':=[]) rfl ⟨rfl,_,mo.put hf,jx hd,by rw[hf];simp⟩
theorem wj {B im cm cu:Nat}{u:Bool} (hB:∀i,B≤i→ob i=none) (h1:im<B) (h2:cm<B) (h3:cu<B) (d12:im≠cm) (d13:im≠cu) (d23:cm≠cu) (hm:ob im=some M) (hcm:ob cm=some [.mp im (g im) 208]) (hcu:ob cu=some [.d (.bool u)])
  (mo:fX M l) (hd:jw M) (nm:Str) (k:Nat) :
  eJ Tryz.prog 135 [sv nm,iv .i64 (k:Nat),jc (.ptr cm (g cm) 0),jc (.ptr cu (g cu) 0)] g ob (fun _ g' ob'=>Ou im cu l nm (1,k) u g ob g' ob') (fun _ _ _=>False):=by
 refine al B [im,cu] ac mixed Tryz.func135 rfl b9 [] rfl c8 c8 (by simp[Tryz.ntmps135]) (by simp[h1,h3]) hB fun b₀ β0 s0 w0=>?_
 have n1:∀k,(im=B+k)=False:=fun k=>by simp;omega
 have n2:∀k,(cm=B+k)=False:=fun k=>by simp;omega
 have n3:∀k,(cu=B+k)=False:=fun k=>by simp;omega
 have mo1:=mo nm
 cases hf:aK l nm with
 |some x=>
   rw[hf] at mo1
   simp only[w8,thD] at mo1
   simp only[go_sem,n1,n2,n3,jc,hcm,hm,C6,B3,mo1,hcu]
   refine⟨_,ag.refl _,?_⟩
   simp only[go_sem]
   refine aY.two (ca:=M) (cb:=[.d (.bool false)]) (fun i hi ha hb=>⟨by (try simp only[upd]);(repeat rw[if_neg (by omega)]),by (try simp only[upd]);(repeat rw[if_neg (by omega)])⟩) (by (try simp only[upd]);(repeat rw[if_neg (by omega)])) (by (try simp only[upd]);(repeat rw[if_neg (by omega)])) (by simp only[upd];(repeat rw[if_neg (by omega)]);exact hm) (by simp[upd]) hd.low AK (rs':=[]) rfl ⟨rfl,M,mo.old hf,hd,by rw[hf];simp⟩
 |none=>
   rw[hf] at mo1
   simp only[G3] at mo1
   simp only[go_sem,n1,n2,n3,jc,hcm,hm,C6,B3,mo1,hcu]
   refine⟨_,ag.refl _,?_⟩
   simp only[go_sem]
   refine aY.two (ca:=mset M (.str nm) (.d (.iptr (thD (1,k))))) (cb:=[.d (.bool u)]) (fun i hi ha hb=>⟨by (try simp only[upd]);(repeat rw[if_neg (by omega)]),by (try simp only[upd]);(repeat rw[if_neg (by omega)])⟩) (by (try simp only[upd]);(repeat rw[if_neg (by omega)])) (by (try simp only[upd]);(repeat rw[if_neg (by omega)])) (by simp[upd,thD]) (by simp only[upd];rw[if_neg (z6 d13)];(repeat rw[if_neg (by omega)]);exact hcu) (jx hd).low AK (rs':=[]) rfl ⟨rfl,_,mo.put hf,jx hd,by rw[hf];simp⟩
end
end
section
attribute [local congr] Go.Am.ite_cc
open Go Go.Am Go.Asm
open Go.Src (Th aK bL bm bt aX thV thA thF thL)
section
theorem iG {α β:Type}{f:Nat→α→β}{l:List α}{k:Nat}{x:α} (h:l[k]? = some x):(l.take (k+1)).mapIdx f=(l.take k).mapIdx f++[f k x]:=by
 have hk:=(l0.1 h).1
 rw[A4,h,H7,List.mapIdx_concat,B7,Nat.min_eq_left a6]
structure GlI (B:Nat) (l:List Th) (g:Nat→Nat) (ob:Obs) (f:Nat) (p:List C) (st:St):Prop where
 f1:st.f 1=.one (.ptr (B+1) (st.gen (B+1)) 0)
 f4:st.f 4=.one (.ptr (B+4) (st.gen (B+4)) 0)
 f5:st.f 5=.one (.ptr (B+5) (st.gen (B+5)) 0)
 f6:st.f 6=.one (.clo f [.ptr (B+4) (st.gen (B+4)) 0,.ptr (B+5) (st.gen (B+5)) 0])
 o1:st.obj (B+1)=some p
 o5:st.obj (B+5)=some [.d (.bool (bL [] l))]
 fr:∀i,i<B∨B+100≤i→st.gen i=g i∧st.obj i=ob i
def GlR (im B:Nat) (l:List Th) (g:Nat→Nat) (ob:Obs) (r:AV) (g':Nat→Nat) (ob':Obs):Prop:=
 r=.tup [.one (.mp im (g' im) 208),bv (bL [] l)]∧(∃M,ob' im=some M∧fX M l∧jw M)∧∀i,i<B∨B+100≤i→g' i=g i∧ob' i=ob i
theorem iH {l:List Th}{t:Th}:bL [] (l++[t])=(bL [] l&&(aK l t.1).isNone):=by rw[Src.oJ];rfl
variable {g:Nat→Nat}
theorem AL{ob:Obs}{p:Src.Prog} (hfree:∀i,1100≤i→ob i=none) (hsz:szP p≤1000000000) :
  eJ Tryz.prog 87 [eg p] g ob (GlR 1013 1000 (bm p) g ob) (fun _ _ _=>False):=by
 refine ez 1000 ac mixed Tryz.func87 rfl b9 [.tmp 2,.tmp 3] rfl c8 c8 (by simp[Tryz.ntmps87]) fun b₀ β0 s0 w0=>?_
 obtain⟨vs,ars,fs⟩:=p
 unfold szP at hsz
 simp only at hsz
 obtain⟨L,hL⟩:∃L,bm ⟨vs,ars,fs⟩=L:=⟨_,rfl⟩
 rw[hL]
 unfold bm at hL
 simp only at hL
 unfold eg gU
 simp only[go_sem,j5]
 refine ap (fun m st=>∃k:Nat,m+k=vs.length∧GlI 1000 (thV (vs.take k)) g ob 134 (gL ⟨vs,ars,fs⟩) st∧st.obj 1004=some [.mp 1013 (st.gen 1013) 208]∧(∃M,st.obj 1013=some M∧fX M (thV (vs.take k))∧jw M)∧st.f 16=.one (.d (.sl (vs.map fun s=>[.str s])))∧st.f 17=iv .i64 vs.length∧st.f 18=iv .i64 k) vs.length ?_ ?_
 ·refine⟨0,rfl,⟨?_,?_,?_,?_,?_,?_,?_⟩,?_⟩ <;> (simp only[go_sem])
  ·rfl
  ·rfl
  ·exact fun i hi=>⟨nu,nu⟩
  ·exact⟨[],rfl,fun s=>rfl,fun c hc=>by cases hc⟩
 rintro m f g1 ob1 ⟨k,hk,⟨q1,q4,q5,q6,o1,o5,fr⟩,o4,⟨M,oM,mM,dM⟩,q16,q17,q18⟩
 simp only[Nat.reduceAdd] at q1 q4 q5 q6 o1 o5 fr o4 oM q16 q17 q18
 have hw:=ai (k:=k) a6
 by_cases hlt:k<vs.length
 ·have hki:(k:Int)<(vs.length:Int):=a6
  have hk0:(0:Int)≤(k:Int):=a6
  obtain⟨v,he⟩:=getq hlt
  simp only[go_sem,q6,q16,q17,q18,hki,hk0,he]
  refine aM (f:=134) (caps:=[.ptr 1004 (g1 1004) 0,.ptr 1005 (g1 1005) 0]) aa rfl (by simp only[go_sem,q6]) (by simp only[go_sem];exact rP (B:=1100) (im:=1013) (cm:=1004) (cu:=1005) (fun i hi=>by rw[(fr i a6).2];exact hfree i hi) a8 a8 a8 a8 a8 a8 oM o4 o5 mM dM v (2,k)) ?_ ?_
  ·exact fun _ _ _ h=>h.elim
  rintro _ g' ob' ⟨rfl,M',mM',dM',rfl⟩
  simp only[go_sem,q18,hw]
  have hT:thV (vs.take (k+1))=thV (vs.take k)++[(v,2,k)]:=iG he
  refine ah (m-1) a6 ⟨k+1,a6,⟨?_,?_,?_,?_,?_,?_,?_⟩,?_⟩ <;> (simp only[go_sem,q1,q4,q5,q6,o1,o4,q16,q17])
  ·rw[hT,iH]
  ·exact fun i hi=>⟨(fr i hi).1,nt ((fr i hi).2)⟩
  ·exact⟨M',rfl,by rw[hT];exact mM',dM'⟩
 have hki:¬(k:Int)<(vs.length:Int):=a6
 obtain rfl:k=vs.length:=a6
 unfold gL gU at o1
 simp only[l5,w7] at o1
 simp only[go_sem,q1,o1,q17,q18,hki,j5]
 refine ap (fun m st=>∃k:Nat,m+k=ars.length∧GlI 1000 (thV vs++thA (ars.take k)) g ob 134 (gL ⟨vs,ars,fs⟩) st∧st.obj 1004=some [.mp 1013 (st.gen 1013) 208]∧(∃M,st.obj 1013=some M∧fX M (thV vs++thA (ars.take k))∧jw M)∧st.f 30=.one (.d (.sl (ars.map arD)))∧st.f 31=iv .i64 ars.length∧st.f 32=iv .i64 k) ars.length ?_ ?_
 ·rw[l6 (j9 _)] at o5 mM
  have hT0:thV vs++thA []=thV vs:=by simp[thA]
  refine⟨0,rfl,⟨?_,?_,?_,?_,?_,?_,?_⟩,?_⟩ <;> (simp only[go_sem,q1,q4,q5,q6,o1,o4,o5,hT0])
  ·rfl
  ·exact fr
  ·exact⟨M,oM,mM,dM⟩
 clear q1 q4 q5 q6 o1 o5 fr o4 oM q16 q17 q18 mM dM hw hlt hki hk M
 rintro m f g1 ob1 ⟨k,hk,⟨q1,q4,q5,q6,o1,o5,fr⟩,o4,⟨M,oM,mM,dM⟩,q16,q17,q18⟩
 simp only[Nat.reduceAdd] at q1 q4 q5 q6 o1 o5 fr o4 oM q16 q17 q18
 have hw:=ai (k:=k) a6
 by_cases hlt:k<ars.length
 ·have hki:(k:Int)<(ars.length:Int):=a6
  have hk0:(0:Int)≤(k:Int):=a6
  obtain⟨⟨v,z⟩,he⟩:=getq hlt
  have n4:=(fr 1100 a6).2
  simp only[go_sem,q6,q16,q17,q18,hki,hk0,he,arD]
  refine aM (f:=134) (caps:=[.ptr 1004 (g1 1004) 0,.ptr 1005 (g1 1005) 0]) aa rfl (by simp only[go_sem,q6]) (by simp only[go_sem];exact rP (B:=1100) (im:=1013) (cm:=1004) (cu:=1005) (fun i hi=>by (try simp only[upd]);(repeat rw[if_neg (by omega)]);rw[(fr i (by omega)).2];exact hfree i hi) (by decide) (by decide) (by decide) (by decide) (by decide) (by decide) (by simp[upd];exact oM) (by simp[upd];exact o4) (by simp[upd];exact o5) mM dM v (3,k)) ?_ ?_
  ·exact fun _ _ _ h=>h.elim
  rintro _ g' ob' ⟨rfl,M',mM',dM',rfl⟩
  simp only[go_sem,q18,hw]
  have hT:thV vs++thA (ars.take (k+1))=(thV vs++thA (ars.take k))++[(v,3,k)]:=by
   rw[s6]
   congr 1
   exact iG he
  refine ah (m-1) a6 ⟨k+1,a6,⟨?_,?_,?_,?_,?_,?_,?_⟩,?_⟩ <;> (simp only[go_sem,q1,q4,q5,q6,o1,o4,q16,q17])
  ·rw[hT,iH]
  ·exact fun i hi=>⟨nt ((fr i hi).1),nt ((fr i hi).2)⟩
  ·exact⟨M',rfl,by rw[hT];exact mM',dM'⟩
 have hki:¬(k:Int)<(ars.length:Int):=a6
 obtain rfl:k=ars.length:=a6
 unfold gL gU at o1
 simp only[l5,w7] at o1
 simp only[go_sem,q1,o1,q17,q18,hki,j5]
 refine ap (fun m st=>∃k:Nat,m+k=fs.length∧GlI 1000 (thV vs++thA ars++thF (fs.take k)) g ob 134 (gL ⟨vs,ars,fs⟩) st∧st.obj 1004=some [.mp 1013 (st.gen 1013) 208]∧(∃M,st.obj 1013=some M∧fX M (thV vs++thA ars++thF (fs.take k))∧jw M)∧st.f 45=.one (.d (.sl (fs.map fnD)))∧st.f 46=iv .i64 fs.length∧st.f 47=iv .i64 k) fs.length ?_ ?_
 ·rw[l6 (j9 _)] at o5 mM
  have hT0:thV vs++thA ars++thF []=thV vs++thA ars:=by simp[thF]
  refine⟨0,rfl,⟨?_,?_,?_,?_,?_,?_,?_⟩,?_⟩ <;> (simp only[go_sem,q1,q4,q5,q6,o1,o4,o5,hT0])
  ·rfl
  ·exact fr
  ·exact⟨M,oM,mM,dM⟩
 clear q1 q4 q5 q6 o1 o5 fr o4 oM q16 q17 q18 mM dM hw hlt hki hk M
 rintro m f g1 ob1 ⟨k,hk,⟨q1,q4,q5,q6,o1,o5,fr⟩,o4,⟨M,oM,mM,dM⟩,q16,q17,q18⟩
 simp only[Nat.reduceAdd] at q1 q4 q5 q6 o1 o5 fr o4 oM q16 q17 q18
 have hw:=ai (k:=k) a6
 by_cases hlt:k<fs.length
 ·have hki:(k:Int)<(fs.length:Int):=a6
  have hk0:(0:Int)≤(k:Int):=a6
  obtain⟨x,he⟩:=getq hlt
  simp only[go_sem,q6,q16,q17,q18,hki,hk0,he,fnD]
  refine aM (f:=134) (caps:=[.ptr 1004 (g1 1004) 0,.ptr 1005 (g1 1005) 0]) aa rfl (by simp only[go_sem,q6]) (by simp only[go_sem];exact rP (B:=1100) (im:=1013) (cm:=1004) (cu:=1005) (fun i hi=>by (try simp only[upd]);(repeat rw[if_neg (by omega)]);rw[(fr i (by omega)).2];exact hfree i hi) (by decide) (by decide) (by decide) (by decide) (by decide) (by decide) (by simp[upd];exact oM) (by simp[upd];exact o4) (by simp[upd];exact o5) mM dM x.name (4,k)) ?_ ?_
  ·exact fun _ _ _ h=>h.elim
  rintro _ g' ob' ⟨rfl,M',mM',dM',rfl⟩
  simp only[go_sem,q18,hw]
  have hT:thV vs++thA ars++thF (fs.take (k+1))=(thV vs++thA ars++thF (fs.take k))++[(x.name,4,k)]:=by
   rw[s6 (thV vs++thA ars)]
   congr 1
   exact iG he
  refine ah (m-1) a6 ⟨k+1,a6,⟨?_,?_,?_,?_,?_,?_,?_⟩,?_⟩ <;> (simp only[go_sem,q1,q4,q5,q6,o1,o4,q16,q17])
  ·rw[hT,iH]
  ·exact fun i hi=>⟨nt ((fr i hi).1),nt ((fr i hi).2)⟩
  ·exact⟨M',rfl,by rw[hT];exact mM',dM'⟩
 have hki:¬(k:Int)<(fs.length:Int):=a6
 obtain rfl:k=fs.length:=a6
 rw[l6 (j9 _),hL] at o5 mM
 simp only[go_sem,q17,q18,hki]
 refine aU c9 ?_
 simp only[go_sem,q4,q5,o4,o5]
 refine⟨_,ag.refl _,?_⟩
 simp only[go_sem]
 exact⟨rfl,⟨M,oM,mM,dM⟩,fr⟩
theorem Dj{ob:Obs}{x:Src.Fn} (hfree:∀i,2100≤i→ob i=none) (hsz:x.params.length+x.locals.length≤1000000000) :
  eJ Tryz.prog 88 [fnV x] g ob (GlR 2011 2000 (bt x) g ob) (fun _ _ _=>False):=by
 refine ez 2000 ac mixed Tryz.func88 rfl b9 [.tmp 2,.tmp 3] rfl c8 c8 (by simp[Tryz.ntmps88]) fun b₀ β0 s0 w0=>?_
 obtain⟨nm,ps,ls,wd,body⟩:=x
 simp only at hsz
 obtain⟨L,hL⟩:∃L,bt ⟨nm,ps,ls,wd,body⟩=L:=⟨_,rfl⟩
 rw[hL]
 unfold bt at hL
 simp only at hL
 unfold fnV fnD
 simp only[go_sem,j5]
 refine ap (fun m st=>∃k:Nat,m+k=ps.length∧GlI 2000 (thL 0 (ps.take k)) g ob 135 ((fnD ⟨nm,ps,ls,wd,body⟩).map .d) st∧st.obj 2004=some [.mp 2011 (st.gen 2011) 208]∧(∃M,st.obj 2011=some M∧fX M (thL 0 (ps.take k))∧jw M)∧st.f 14=.one (.d (.sl (ps.map fun s=>[.str s])))∧st.f 15=iv .i64 ps.length∧st.f 16=iv .i64 k) ps.length ?_ ?_
 ·refine⟨0,rfl,⟨?_,?_,?_,?_,?_,?_,?_⟩,?_⟩ <;> (simp only[go_sem])
  ·rfl
  ·rfl
  ·exact fun i hi=>⟨nu,nu⟩
  ·exact⟨[],rfl,fun s=>rfl,fun c hc=>by cases hc⟩
 rintro m f g1 ob1 ⟨k,hk,⟨q1,q4,q5,q6,o1,o5,fr⟩,o4,⟨M,oM,mM,dM⟩,q16,q17,q18⟩
 simp only[Nat.reduceAdd] at q1 q4 q5 q6 o1 o5 fr o4 oM q16 q17 q18
 have hw:=ai (k:=k) a6
 by_cases hlt:k<ps.length
 ·have hki:(k:Int)<(ps.length:Int):=a6
  have hk0:(0:Int)≤(k:Int):=a6
  obtain⟨v,he⟩:=getq hlt
  simp only[go_sem,q6,q16,q17,q18,hki,hk0,he]
  refine aM (f:=135) (caps:=[.ptr 2004 (g1 2004) 0,.ptr 2005 (g1 2005) 0]) aa rfl (by simp only[go_sem,q6]) (by simp only[go_sem];exact wj (B:=2100) (im:=2011) (cm:=2004) (cu:=2005) (fun i hi=>by rw[(fr i a6).2];exact hfree i hi) a8 a8 a8 a8 a8 a8 oM o4 o5 mM dM v k) ?_ ?_
  ·exact fun _ _ _ h=>h.elim
  rintro _ g' ob' ⟨rfl,M',mM',dM',rfl⟩
  simp only[go_sem,q18,hw]
  have hT:thL 0 (ps.take (k+1))=thL 0 (ps.take k)++[(v,1,k)]:=by
   have:=iG (f:=fun i n=>((n,1,0+i):Th)) he
   simpa[thL] using this
  refine ah (m-1) a6 ⟨k+1,a6,⟨?_,?_,?_,?_,?_,?_,?_⟩,?_⟩ <;> (simp only[go_sem,q1,q4,q5,q6,o1,o4,q16,q17])
  ·rw[hT,iH]
  ·exact fun i hi=>⟨(fr i hi).1,nt ((fr i hi).2)⟩
  ·exact⟨M',rfl,by rw[hT];exact mM',dM'⟩
 have hki:¬(k:Int)<(ps.length:Int):=a6
 obtain rfl:k=ps.length:=a6
 unfold fnD at o1
 simp only[l5,w7] at o1
 simp only[go_sem,q1,o1,q17,q18,hki,j5]
 refine ap (fun m st=>∃k:Nat,m+k=ls.length∧GlI 2000 (thL 0 ps++thL ps.length (ls.take k)) g ob 135 ((fnD ⟨nm,ps,ls,wd,body⟩).map .d) st∧st.obj 2004=some [.mp 2011 (st.gen 2011) 208]∧(∃M,st.obj 2011=some M∧fX M (thL 0 ps++thL ps.length (ls.take k))∧jw M)∧st.f 27=.one (.d (.sl (ls.map fun s=>[.str s])))∧st.f 28=iv .i64 ls.length∧st.f 29=iv .i64 k) ls.length ?_ ?_
 ·rw[l6 (j9 _)] at o5 mM
  have hT0:thL 0 ps++thL ps.length []=thL 0 ps:=by simp[thL]
  refine⟨0,rfl,⟨?_,?_,?_,?_,?_,?_,?_⟩,?_⟩ <;> (simp only[go_sem,q1,q4,q5,q6,o1,o4,o5,hT0])
  ·rfl
  ·exact fr
  ·exact⟨M,oM,mM,dM⟩
 clear q1 q4 q5 q6 o1 o5 fr o4 oM q16 q17 q18 mM dM hw hlt hki hk M
 rintro m f g1 ob1 ⟨k,hk,⟨q1,q4,q5,q6,o1,o5,fr⟩,o4,⟨M,oM,mM,dM⟩,q16,q17,q18⟩
 simp only[Nat.reduceAdd] at q1 q4 q5 q6 o1 o5 fr o4 oM q16 q17 q18
 have hw:=ai (k:=k) a6
 by_cases hlt:k<ls.length
 ·have hki:(k:Int)<(ls.length:Int):=a6
  have hk0:(0:Int)≤(k:Int):=a6
  have hwk:IntKind.i64.wrap ((ps.length:Int)+(k:Int))=((ps.length+k:Nat):Int):=by rw[wrap_i64] <;> omega
  obtain⟨v,he⟩:=getq hlt
  unfold fnD at o1
  simp only[l5,w7] at o1
  simp only[go_sem,q1,o1,q6,q16,q17,q18,hki,hk0,he,j5,hwk]
  refine aM (f:=135) (caps:=[.ptr 2004 (g1 2004) 0,.ptr 2005 (g1 2005) 0]) aa rfl (by simp only[go_sem,q6]) (by simp only[go_sem];exact wj (B:=2100) (im:=2011) (cm:=2004) (cu:=2005) (fun i hi=>by (try simp only[upd]);(repeat rw[if_neg (by omega)]);rw[(fr i (by omega)).2];exact hfree i hi) (by decide) (by decide) (by decide) (by decide) (by decide) (by decide) oM o4 o5 mM dM v (ps.length+k)) ?_ ?_
  ·exact fun _ _ _ h=>h.elim
  rintro _ g' ob' ⟨rfl,M',mM',dM',rfl⟩
  simp only[go_sem,q18,hw]
  have hT:thL 0 ps++thL ps.length (ls.take (k+1))=(thL 0 ps++thL ps.length (ls.take k))++[(v,1,ps.length+k)]:=by
   rw[s6]
   congr 1
   exact iG he
  refine ah (m-1) a6 ⟨k+1,a6,⟨?_,?_,?_,?_,?_,?_,?_⟩,?_⟩ <;> (simp only[go_sem,q1,q4,q5,q6,o1,o4,q16,q17])
  ·rfl
  ·rw[hT,iH]
  ·exact fun i hi=>⟨nt ((fr i hi).1),nt ((fr i hi).2)⟩
  ·exact⟨M',rfl,by rw[hT];exact mM',dM'⟩
 have hki:¬(k:Int)<(ls.length:Int):=a6
 obtain rfl:k=ls.length:=a6
 rw[l6 (j9 _),hL] at o5 mM
 simp only[go_sem,q17,q18,hki]
 refine aU c9 ?_
 simp only[go_sem,q4,q5,o4,o5]
 refine⟨_,ag.refl _,?_⟩
 simp only[go_sem]
 exact⟨rfl,⟨M,oM,mM,dM⟩,fr⟩
end
end
end Go.Proofs.YtbojbioflppbdaaGreatDoor

/- A part of the proof; no conditions. -/
import Derived.Test.YtgbcmokfgbmabaaGreatDoorRPart17
set_option linter.unusedSimpArgs false
set_option linter.unusedVariables false
set_option maxHeartbeats 64000000
set_option maxRecDepth 100000
namespace Go.Proofs.YtgbcmokfgbmabaaGreatDoorR
section
attribute [local congr] Go.Am.ite_cc
open Go Go.Am Go.Asm
open Go.Src (Ex Stm szE aG szS au inE pC inS oF lT cH lU cW)
theorem cB (p:Src.Prog):bO p=.agg [.d (.sl (p.vars.map fun s=>[.str s])),.d (.sl (p.arrays.map arD)),.d (.sl (p.funcs.map fnD))]:=rfl
theorem QP (p:Src.Prog) (hp:Src.InP p) (most:Int) (hm:0≤most∧most≤1000000):aq Tryz.prog 13 [bO p,iv .i64 most] (· = bv (Src.QO p most)):=by
 refine hdP Tryz.func13 rfl [4] fun g=>?_
 obtain⟨z,hz⟩:∃z,Src.QO p most=z:=⟨_,rfl⟩
 rw[hz]
 obtain⟨pv,pa,pf,pfs⟩:=hp
 unfold Src.QO at hz
 rw[cB]
 simp only[go_sem]
 refine bG rfl (by simp only[go_sem];exact wB p.vars pv) ?_
 rintro _ rfl
 cases hs:Src.Ag p.vars
 ·obtain rfl:z=false:=by rw[←hz,hs];rfl
  exact VE
 by_cases ha:200<(p.arrays.length:Int)
 ·obtain rfl:z=false:=by rw[←hz,hs,show decide (p.arrays.length≤200)=false from y7 a6];rfl
  simp only[go_sem,j4,ha]
 by_cases hf:70<(p.funcs.length:Int)
 ·obtain rfl:z=false:=by rw[←hz,hs,show decide (p.funcs.length≤70)=false from y7 a6,B3];rfl
  simp only[go_sem,j4,ha,hf]
 rw[hs,show decide (p.funcs.length≤70)=true from A7 a6,show decide (p.arrays.length≤200)=true from A7 a6,if_neg a8] at hz
 have hw1:IntKind.i64.wrap (most-(p.vars.length:Int))=most-p.vars.length:=wrap_i64 _ a6 a6
 have hw2:IntKind.i64.wrap (most-(p.vars.length:Int)-(p.arrays.length:Int))=most-p.vars.length-p.arrays.length:=wrap_i64 _ a6 a6
 obtain⟨left,hleft⟩:∃x:Int,most-(p.vars.length:Int)-(p.arrays.length:Int)-(p.funcs.length:Int)=x:=⟨_,rfl⟩
 rw[hleft] at hz
 have hw3:IntKind.i64.wrap (most-(p.vars.length:Int)-(p.arrays.length:Int)-(p.funcs.length:Int))=left:=by rw[hleft];exact wrap_i64 _ a6 a6
 have hlb:-2000000000000000000≤left∧left≤1000000:=a6
 obtain⟨ga,hga⟩:∃y,(p.arrays.all fun a=>decide ((a.1.length:Int)≤60))=y:=⟨_,rfl⟩
 simp only[go_sem,j4,ha,hf,hw1,hw2,hw3]
 refine dq (fun k st=>((p.arrays.drop k).all fun a=>decide ((a.1.length:Int)≤60))=ga∧st.f 2=.one (.ptr 2 (st.gen 2) 0)∧st.obj 2=some [.d (.sl (p.vars.map fun s=>[.str s])),.d (.sl (p.arrays.map arD)),.d (.sl (p.funcs.map fnD))]∧st.f 5=iv .i64 left∧st.f 6=iv .i64 k) p.arrays.length ⟨hga,?_⟩ ?_
 ·exact VE
 rintro k f g1 ob1 hk ⟨hc,q2,o2,q5,q6⟩
 simp only at q2 o2 q5 q6
 have hw:=ab (k:=k) a6
 by_cases hlt:k<p.arrays.length
 ·have hki:(k:Int)<(p.arrays.length:Int):=a6
  obtain⟨a,hs⟩:=getq hlt
  obtain⟨h1,h2⟩:=cA hc hs
  have hg:=getD_at (f:=arD) hs
  have hai:arD a=[.str a.1,.int .i64 a.2]:=rfl
  rw[hai] at hg
  by_cases hn:60<(a.1.length:Int)
  ·have e:=h2 (y7 a6)
   rw[e] at hga
   rw[hga,if_pos rfl] at hz
   subst hz
   simp only[go_sem,q2,o2,q6,hki,j4,hg,hn]
  ·simp only[go_sem,q2,o2,q6,hki,j4,hg,hn,hw]
   refine bD hlt ⟨h1 (A7 a6),?_⟩
   simp only[go_sem,q2,o2,q5]
 have hki:¬(k:Int)<(p.arrays.length:Int):=a6
 rw[x6 a6] at hc
 have e:ga=true:=hc.symm
 rw[e] at hga
 rw[hga,if_neg a8] at hz
 clear hc hk hlt e hga hw
 simp only[go_sem,q2,o2,q6,hki,j4]
 refine dq (fun k st=>∃c:Int,(match Src.IM c (p.funcs.drop k) with|some n=>decide (0≤n)|none=>false)=z∧(-3000000000000000000≤c∧c≤1000000)∧(0≤c∨-2000000000000000000-400*(k:Int)≤c)∧st.f 2=.one (.ptr 2 (st.gen 2) 0)∧st.obj 2=some [.d (.sl (p.vars.map fun s=>[.str s])),.d (.sl (p.arrays.map arD)),.d (.sl (p.funcs.map fnD))]∧st.f 5=iv .i64 c∧st.f 7=iv .i64 k) p.funcs.length ⟨left,hz,a6,a6,?_⟩ ?_
 ·simp only[go_sem,q2,q5,o2]
 clear hki q2 o2 q5 q6
 rintro k f g1 ob1 hk ⟨c,hc,hcb,hcl,q2,o2,q5,q7⟩
 simp only at q2 o2 q5 q7
 have hw:=ab (k:=k) a6
 by_cases hlt:k<p.funcs.length
 case neg=>
  have hki:¬(k:Int)<(p.funcs.length:Int):=a6
  rw[x6 a6] at hc
  simp only[Src.IM] at hc
  simp only[go_sem,q2,o2,q5,q7,hki,j4,hc]
 have hki:(k:Int)<(p.funcs.length:Int):=a6
 obtain⟨fn,hs⟩:=getq hlt
 have hg:=getD_at (f:=fnD) hs
 have hfi:fnD fn=[.str fn.name,.sl (fn.params.map fun s=>[.str s]),.sl (fn.locals.map fun s=>[.str s]),.bool fn.word,.sl (fn.body.map smD)]:=rfl
 rw[hfi] at hg
 obtain⟨⟨i1,i2⟩,i3,i4⟩:=pfs fn (l0 hs)
 rw[dr hs,Src.IM] at hc
 simp only[go_sem,q2,o2,q7,hki,j4,hg]
 refine bG rfl (by simp only[go_sem];exact wB fn.params i1) ?_
 rintro _ rfl
 cases h1:Src.Ag fn.params
 ·obtain rfl:z=false:=by rw[←hc,h1];rfl
  exact VE
 simp only[go_sem]
 refine bG rfl (by simp only[go_sem];exact wB fn.locals i2) ?_
 rintro _ rfl
 cases h2:Src.Ag fn.locals
 ·obtain rfl:z=false:=by rw[←hc,h1,h2];rfl
  exact VE
 by_cases hn:60<(fn.name.length:Int)
 ·obtain rfl:z=false:=by rw[←hc,h1,h2,y7 (show ¬(fn.name.length:Int)≤60 by omega)];rfl
  simp only[go_sem,hn]
 rw[h1,h2,A7 (show (fn.name.length:Int)≤60 by omega),if_pos a8] at hc
 have l1:fn.params.length≤200:=by unfold Src.Ag at h1;simp only[l6,A6] at h1;exact h1.1
 have l2:fn.locals.length≤200:=by unfold Src.Ag at h2;simp only[l6,A6] at h2;exact h2.1
 have hw1:IntKind.i64.wrap (c-(fn.params.length:Int))=c-fn.params.length:=wrap_i64 _ a6 a6
 have hw2:IntKind.i64.wrap (c-(fn.params.length:Int)-(fn.locals.length:Int))=c-fn.params.length-fn.locals.length:=wrap_i64 _ a6 a6
 simp only[go_sem,hn,q5,j4,hw1,hw2]
 have b1:=Src.nv fn.body (c-fn.params.length-fn.locals.length) 60
 have b2:c-fn.params.length-fn.locals.length<0→cW fn.body (c-fn.params.length-fn.locals.length) 60=c-fn.params.length-fn.locals.length:=fun h=>Src.lz h _
 have b3:=Src.qA fn.body (c-fn.params.length-fn.locals.length) 60
 refine bG rfl (by simp only[go_sem,hw1,hw2];exact xU (au fn.body) fn.body _ 60 (j8 _) i3 i4 a6 a8) ?_
 rintro _ rfl
 simp only[go_sem,q7,hw]
 refine bD hlt ⟨_,hc,a6,a6,?_⟩
 simp only[go_sem,q2,o2]
end
section
attribute [local congr] Go.Am.ite_cc
open Go Go.Am Go.Asm
open Go.Src (aR gz)
theorem Fk (c:UInt8):aq Tryz.prog 127 [iv .u8 c.toNat] (· = bv (digit c)):=by
 refine hdP Tryz.func127 rfl [2] fun g=>?_
 simp only[go_sem]
 have e:=@qG c
 cases hs:digit c <;> rw[hs] at e <;> simp at e <;> ((repeat' (first|refine⟨?_,?_⟩|intro _)) <;> (first|rfl|(exfalso;omega)|(simp;omega)))
theorem vt (c:UInt8):aq Tryz.prog 129 [iv .u8 c.toNat] (· = bv (letter c)):=by
 refine hdP Tryz.func129 rfl [2] fun g=>?_
 simp only[go_sem]
 have e:=@tK c
 cases hs:letter c <;> rw[hs] at e <;> simp at e <;> ((repeat' (first|refine⟨?_,?_⟩|intro _)) <;> (first|rfl|(exfalso;omega)|(simp;omega)))
theorem Fl:aq Tryz.prog 131 [] (· = iY gz):=by
 refine hdP Tryz.func131 rfl [0] fun g=>?_
 simp only[go_sem]
 exact⟨_,⟨_,pL (L:=gz) rfl rfl rfl,rfl⟩,rfl⟩
theorem Fm:aq Tryz.prog 105 [] (· = iY gz):=by
 refine hdP Tryz.func105 rfl [0] fun g=>?_
 simp only[go_sem]
 exact⟨_,⟨_,pL (L:=gz) rfl rfl rfl,rfl⟩,rfl⟩
theorem Fo {l:List Str}{k:Nat}{s x:Str}{z:Bool} (h:decide (s∈l.drop k)=z) (hx:l[k]? = some x):(x=s→z=true)∧(x≠s→decide (s∈l.drop (k+1))=z):=by
 rw[dr hx] at h
 constructor
 ·rintro rfl;rw[←h];simp
 ·intro e;rw[←h];simp[A3 e]
theorem TJ (l:List Str) (s:Str) (hl:l.length≤1000000000000000000):aq Tryz.prog 130 [iY l,sv s] (· = bv (decide (s∈l))):=by
 refine hdP Tryz.func130 rfl [4] fun g=>?_
 obtain⟨z,hz⟩:∃z,decide (s∈l)=z:=⟨_,rfl⟩
 rw[hz]
 unfold iY
 simp only[go_sem]
 refine dq (fun k st=>decide (s∈l.drop k)=z∧st.f 0=.one (.d (.sl (l.map fun s=>[.str s])))∧st.f 1=sv s∧st.f 5=iv .i64 k) l.length ⟨hz,?_⟩ ?_
 ·exact VE
 rintro k f g1 ob1 hk ⟨hc,q0,q1,q5⟩
 simp only at q0 q1 q5
 have hw:=ab (k:=k) a6
 by_cases hlt:k<l.length
 case neg=>
  have hki:¬(k:Int)<(l.length:Int):=a6
  rw[x6 a6] at hc
  obtain rfl:z=false:=by rw[←hc];rfl
  simp only[go_sem,q0,q5,hki,j4]
 have hki:(k:Int)<(l.length:Int):=a6
 obtain⟨x,hx⟩:=getq hlt
 obtain⟨h1,h2⟩:=Fo hc hx
 have hg:=getD_at (f:=fun s:Str=>[D.str s]) hx
 by_cases hn:x=s
 ·obtain rfl:=h1 hn
  simp only[go_sem,q0,q1,q5,hki,j4,hg,hn]
 ·simp only[go_sem,q0,q1,q5,hki,j4,hg,hn,hw]
  refine bD hlt ⟨h2 hn,?_⟩
  simp only[go_sem,q0,q1]
theorem oJ (s:Str):aR s=true↔s≠[]∧s.length≤20∧s.head?.any letter=true∧s.all dS=true∧s∉gz:=by
 have e:s.takeWhile dS=s↔s.all dS=true:=by
  induction s with
  |nil=>simp
  |cons a s ih=>rw[J4,D4];cases h:dS a <;> simp[ih]
 unfold aR
 rw[A6,e]
theorem IN (s:Str):aq Tryz.prog 106 [sv s] (· = bv (aR s)):=by
 refine hdP Tryz.func106 rfl [2] fun g=>?_
 obtain⟨z,hz⟩:∃z,aR s=z:=⟨_,rfl⟩
 rw[hz]
 have hno:∀h:¬(s≠[]∧s.length≤20∧s.head?.any letter=true∧s.all dS=true∧s∉gz),z=false:=fun h=>by
  cases z
  ·rfl
  ·exact absurd ((oJ s).1 hz) h
 by_cases hnil:s=[]
 ·obtain rfl:=hno fun h=>h.1 hnil
  simp only[go_sem,hnil]
 have hn0:¬(s.length:Int)=0:=fun e=>hnil (u7 a6)
 by_cases hlen:20<(s.length:Int)
 ·obtain rfl:=hno fun h=>by have:=h.2.1;omega
  simp only[go_sem,hn0,hlen]
 obtain⟨c,hc⟩:∃c,s[0]? = some c:=getq a6
 have hhd:s.head? = some c:=by rw[←hc,U0]
 simp only[go_sem,hn0,hlen,hc]
 refine bG rfl (by simp only[go_sem];exact vt c) ?_
 rintro _ rfl
 cases hlc:letter c
 ·obtain rfl:=hno fun h=>by have:=h.2.2.1;rw[hhd] at this;simp[hlc] at this
  exact VE
 simp only[go_sem]
 refine bG rfl (by simp only[go_sem];exact Fl) ?_
 rintro _ rfl
 simp only[go_sem]
 refine bG rfl (by simp only[go_sem];exact TJ gz s a8) ?_
 rintro _ rfl
 by_cases hw:s∈gz
 ·obtain rfl:=hno fun h=>h.2.2.2.2 hw
  simp only[go_sem,hw,S9]
 simp only[go_sem,hw,J9]
 obtain⟨y,hy⟩:∃y,s.all dS=y:=⟨_,rfl⟩
 have hzy:z=y:=by
  cases hz':z
  ·cases hy':y
   ·rfl
   ·rw[hz'] at hz;rw[hy'] at hy
    have:=(oJ s).2 ⟨hnil,a6,by rw[hhd];simp[hlc],hy,hw⟩
    rw[this] at hz;cases hz
  ·rw[hz'] at hz
   rw[←hy,((oJ s).1 hz).2.2.2.1]
 rw[hzy]
 clear hz hno hzy hw hlc
 refine dq (fun k st=>(s.drop k).all dS=y∧st.f 0=sv s∧st.f 3=iv .i64 k) s.length ⟨hy,?_⟩ ?_
 ·exact VE
 rintro k f g1 ob1 hk ⟨hc,q0,q3⟩
 simp only at q0 q3
 have hw:=ab (k:=k) a6
 by_cases hlt:k<s.length
 case neg=>
  have hki:¬(k:Int)<(s.length:Int):=a6
  rw[x6 a6] at hc
  obtain rfl:y=true:=hc.symm
  simp only[go_sem,q0,q3,hki]
 have hki:(k:Int)<(s.length:Int):=a6
 obtain⟨x,hx⟩:=getq hlt
 obtain⟨h1,h2⟩:=cA hc hx
 simp only[go_sem,q0,q3,hki,hx]
 refine bG rfl (by simp only[go_sem];exact vt x) ?_
 rintro _ rfl
 cases hlx:letter x
 ·simp only[go_sem,q0,q3,hx]
  refine bG rfl (by simp only[go_sem];exact Fk x) ?_
  rintro _ rfl
  cases hdx:digit x
  ·by_cases hx9:(x.toNat:Int)=95
   ·have e:dS x=true:=by
     have:x=95:=Q3.1 (by show x.toNat=95;omega)
     simp[dS,this]
    simp only[go_sem,q0,q3,hx,hx9,hw]
    refine bD hlt ⟨h1 e,?_⟩
    exact X7
   ·have e:dS x=false:=by
     have:x≠95:=fun e=>hx9 (by rw[e];rfl)
     simp[dS,hlx,hdx,this]
    obtain rfl:=h2 e
    simp only[go_sem,q0,q3,hx,hx9]
  ·simp only[go_sem,q3,hw]
   refine bD hlt ⟨h1 (by simp[dS,hdx]),?_⟩
   exact X7
 ·simp only[go_sem,q3,hw]
  refine bD hlt ⟨h1 (by simp[dS,hlx]),?_⟩
  exact X7
theorem ip (s:Str):aq Tryz.prog 68 [sv s] (· = bv (aR s)):=by
 refine hdP Tryz.func68 rfl [2] fun g=>?_
 have hn:=IN s
 have hno:s∈gz→aR s=false:=fun h=>y7 fun h'=>h'.2.2.2.2 h
 obtain⟨z,hz⟩:∃z,aR s=z:=⟨_,rfl⟩
 rw[hz] at hn hno ⊢
 simp only[go_sem]
 refine bG rfl (by simp only[go_sem];exact Fm) ?_
 rintro _ rfl
 unfold iY
 simp only[go_sem]
 refine dq (fun k st=>st.f 0=sv s∧st.f 3=.one (.d (.sl (gz.map fun s=>[.str s])))∧st.f 4=iv .i64 k) 10 ⟨?_,?_⟩ ?_
 ·exact VE
 ·exact VE
 rintro k f g1 ob1 hk ⟨q0,q3,q4⟩
 simp only at q0 q3 q4
 have hw:=ab (k:=k) a6
 have h10:((gz.length:Nat):Int)=10:=rfl
 by_cases hlt:k<10
 case neg=>
  have hki:¬(k:Int)<10:=a6
  simp only[go_sem,q0,q3,q4,hki,j4,h10]
  refine bG rfl (by simp only[go_sem];exact hn) ?_
  rintro _ rfl
  exact VE
 have hki:(k:Int)<10:=a6
 obtain⟨x,hx⟩:=getq (l:=gz) (k:=k) hlt
 have hg:=getD_at (f:=fun s:Str=>[D.str s]) hx
 by_cases he:s=x
 ·obtain rfl:=hno (by rw[he];exact l0 hx)
  simp only[go_sem,q0,q3,q4,hki,j4,h10,hg,he]
 ·simp only[go_sem,q0,q3,q4,hki,j4,h10,hg,he,hw]
  refine bD hlt ⟨?_,?_⟩
  ·exact X7
  ·simp only[go_sem,q3]
theorem wC (l:List Str) (hl:l.length≤1000000000000000000):aq Tryz.prog 67 [iY l] (· = bv (l.all aR)):=by
 refine hdP Tryz.func67 rfl [2] fun g=>?_
 obtain⟨z,hz⟩:∃z,l.all aR=z:=⟨_,rfl⟩
 rw[hz]
 unfold iY
 simp only[go_sem]
 refine dq (fun k st=>(l.drop k).all aR=z∧st.f 0=.one (.d (.sl (l.map fun s=>[.str s])))∧st.f 3=iv .i64 k) l.length ⟨hz,?_⟩ ?_
 ·exact VE
 rintro k f g1 ob1 hk ⟨hc,q0,q3⟩
 simp only at q0 q3
 have hw:=ab (k:=k) a6
 by_cases hlt:k<l.length
 case neg=>
  have hki:¬(k:Int)<(l.length:Int):=a6
  rw[x6 a6] at hc
  obtain rfl:z=true:=hc.symm
  simp only[go_sem,q0,q3,hki,j4]
 have hki:(k:Int)<(l.length:Int):=a6
 obtain⟨s,hx⟩:=getq hlt
 obtain⟨h1,h2⟩:=cA hc hx
 have hg:=getD_at (f:=fun s:Str=>[D.str s]) hx
 simp only[go_sem,q0,q3,hki,j4,hg]
 refine bG rfl (by simp only[go_sem];exact ip s) ?_
 rintro _ rfl
 cases hn:aR s
 ·obtain rfl:=h2 hn
  exact VE
 ·simp only[go_sem,q3,hw]
  refine bD hlt ⟨h1 hn,?_⟩
  exact X7
end
section
attribute [local congr] Go.Am.ite_cc
open Go Go.Am Go.Asm
open Go.Src (aR ai br ft bb Ex szE aG inE pC)
theorem dg:aR []=false:=rfl
theorem xV (kind op num:Int) (name:Str) (kids:List Ex) (lv:Nat) (hlv0:lv≤25) (hK:lv≤24→aq Tryz.prog 183 [dj kids,iv .i64 (lv+1:Nat)] (· = bv (bb (lv+1) kids))):aq Tryz.prog 229 [exV (.mk kind op num name kids),iv .i64 lv] (· = bv (ft lv (.mk kind op num name kids))):=by
 refine hdP Tryz.func229 rfl [4] fun g=>?_
 have hE:exV (.mk kind op num name kids)=.agg [.d (.int .i64 kind),.d (.int .i64 op),.d (.int .u32 num),.d (.str name),.d (.sl (kids.map exD))]:=by simp only[exV,exD,aw,l5,v8]
 obtain⟨z,hz⟩:∃z,ft lv (.mk kind op num name kids)=z:=⟨_,rfl⟩
 rw[hz,hE]
 rw[ft] at hz
 by_cases hlv:(24:Int)<(lv:Int)
 ·obtain rfl:z=false:=by rw[←hz,y7 a6,y9]
  simp only[go_sem,hlv]
 have hle:lv≤24:=a6
 have hwl:=ab (k:=lv) a6
 have hK:=hK hle
 unfold dj at hK
 have hk:kind=1∨kind=2∨kind=3∨kind=4∨kind=5∨kind=6∨kind=7∨kind=8∨kind=9∨(¬kind=1∧¬kind=2∧¬kind=3∧¬kind=4∧¬kind=5∧¬kind=6∧¬kind=7∧¬kind=8∧¬kind=9):=a6
 rcases hk with rfl|rfl|rfl|rfl|rfl|rfl|rfl|rfl|rfl|⟨k1,k2,k3,k4,k5,k6,k7,k8,k9⟩
 ·-- 1
  by_cases hop:op=0
  case neg=>
   exact V1
  by_cases hnm:name=[]
  case neg=>
   obtain rfl:z=false:=by rw[←hz];simp[br,ai,hnm]
   simp only[go_sem,hlv,hop,hnm]
  simp only[go_sem,hlv,hop,hnm]
  by_cases hkn:(kids.length:Int)=0
  ·obtain rfl:z=true:=by
    have:kids=[]:=u7 a6
    rw[←hz,this];simp[br,ai,bb,hle,hnm,hop]
   simp only[go_sem,j4,hkn]
  ·exact WG
 ·-- 2
  by_cases hop:op=0
  case neg=>
   exact V1
  by_cases hnu:num=0
  case neg=>
   exact V5
  by_cases hnm:name=[]
  case pos=>
   exact W7
  simp only[go_sem,hlv,hop,hnu,hnm]
  refine bG rfl (by simp only[go_sem];exact ip name) ?_
  rintro _ rfl
  cases hok:aR name
  ·exact XL
  by_cases hkn:(kids.length:Int)=0
  ·obtain rfl:z=true:=by
    have:kids=[]:=u7 a6
    rw[←hz,this];simp[br,ai,bb,hle,hok,hnu,hop]
   simp only[go_sem,j4,hkn]
  ·exact WG
 ·-- 3
  by_cases hop:op=0
  case neg=>
   exact V1
  by_cases hnu:num=0
  case neg=>
   exact V5
  by_cases hnm:name=[]
  case pos=>
   exact W7
  simp only[go_sem,hlv,hop,hnu,hnm]
  refine bG rfl (by simp only[go_sem];exact ip name) ?_
  rintro _ rfl
  cases hok:aR name
  ·exact XL
  by_cases hkn:(kids.length:Int)=1
  case neg=>
   exact XI
  simp only[go_sem,j4,hkn,hwl]
  refine bG rfl (by simp only[go_sem,hwl];exact hK) ?_
  rintro _ rfl
  obtain rfl:z=bb (lv+1) kids:=by
   have:kids.length=1:=a6
   rw[←hz];simp[br,ai,hle,this,hok,hnu,hop]
  exact VE
 ·-- 4
  by_cases hop:op=0
  case neg=>
   exact V1
  by_cases hnu:num=0
  case neg=>
   exact V5
  by_cases hnm:name=[]
  case pos=>
   exact W7
  simp only[go_sem,hlv,hop,hnu,hnm]
  refine bG rfl (by simp only[go_sem];exact ip name) ?_
  rintro _ rfl
  cases hok:aR name
  ·exact XL
  by_cases hkn:(kids.length:Int)≤6
  case neg=>
   obtain rfl:z=false:=by
    have:¬kids.length≤6:=a6
    rw[←hz];simp[br,this]
   simp only[go_sem,j4,hkn]
  simp only[go_sem,j4,hkn,hwl]
  refine bG rfl (by simp only[go_sem,hwl];exact hK) ?_
  rintro _ rfl
  obtain rfl:z=bb (lv+1) kids:=by
   have:kids.length≤6:=a6
   rw[←hz];simp[br,ai,hle,this,hok,hnu,hop]
  exact VE
 ·-- 5
  by_cases hop:op=0
  case neg=>
   exact V1
  by_cases hnu:num=0
  case neg=>
   exact V5
  by_cases hnm:name=[]
  case neg=>
   exact Ym
  simp only[go_sem,hlv,hop,hnu,hnm]
  by_cases hkn:(kids.length:Int)=0
  ·obtain rfl:z=true:=by
    have:kids=[]:=u7 a6
    rw[←hz,this];simp[br,ai,bb,hle,hnm,hnu,hop]
   simp only[go_sem,j4,hkn]
  ·exact WG
 ·-- 6
  by_cases hnu:num=0
  case neg=>
   obtain rfl:z=false:=by rw[←hz];simp[br,hnu]
   simp only[go_sem,hlv,hnu]
  by_cases hnm:name=[]
  case neg=>
   obtain rfl:z=false:=by rw[←hz];simp[br,ai,hnm]
   simp only[go_sem,hlv,hnu,hnm]
  simp only[go_sem,hlv,hnu,hnm]
  by_cases h4:4≤op
  case neg=>
   obtain rfl:z=false:=by rw[←hz];simp[br,h4]
   simp only[go_sem,j4,h4]
  by_cases h15:op≤15
  case neg=>
   obtain rfl:z=false:=by rw[←hz];simp[br,h15]
   simp only[go_sem,j4,h4,h15]
  by_cases hkn:(kids.length:Int)=2
  case neg=>
   obtain rfl:z=false:=by
    have:¬kids.length=2:=a6
    rw[←hz];simp[br,this]
   simp only[go_sem,j4,h4,h15,hkn]
  simp only[go_sem,j4,h4,h15,hkn,hwl]
  refine bG rfl (by simp only[go_sem,hwl];exact hK) ?_
  rintro _ rfl
  obtain rfl:z=bb (lv+1) kids:=by
   have:kids.length=2:=a6
   rw[←hz];simp[br,ai,hle,this,hnm,hnu,h4,h15]
  exact VE
 ·-- 7
  by_cases hop:op=0
  case neg=>
   exact V1
  by_cases hnu:num=0
  case neg=>
   exact V5
  by_cases hnm:name=[]
  case neg=>
   exact Ym
  simp only[go_sem,hlv,hop,hnu,hnm]
  by_cases hkn:(kids.length:Int)=1
  case neg=>
   exact XI
  simp only[go_sem,j4,hkn,hwl]
  refine bG rfl (by simp only[go_sem,hwl];exact hK) ?_
  rintro _ rfl
  obtain rfl:z=bb (lv+1) kids:=by
   have:kids.length=1:=a6
   rw[←hz];simp[br,ai,hle,this,hnm,hnu,hop]
  exact VE
 ·-- 8
  exact WH
 ·-- 9
  exact WH
 ·obtain rfl:z=false:=by rw[←hz];simp[br,k1,k2,k3,k4,k5,k6,k7,k8,k9]
  by_cases hop:op=0
  case neg=>simp only[go_sem,hlv,k6,hop]
  by_cases hnu:num=0
  case neg=>simp only[go_sem,hlv,k6,hop,k1,hnu]
  by_cases hnm:name=[]
  case neg=>simp only[go_sem,hlv,k6,hop,k1,hnu,k2,k3,k4,hnm]
  simp only[go_sem,hlv,k6,hop,k1,hnu,k2,k3,k4,hnm,k5,k7,k8,k9]
theorem wD:∀(N:Nat) (l:List Ex) (lv:Nat),aG l≤N→l.length≤1000000000000000000→pC l→lv≤25→aq Tryz.prog 183 [dj l,iv .i64 lv] (· = bv (bb lv l)):=by
 intro N
 induction N using Nat.strongRecOn with
 |ind N ih=>
 intro l lv hN hl hin hlv
 refine hdP Tryz.func183 rfl [4] fun g=>?_
 obtain⟨z,hz⟩:∃z,bb lv l=z:=⟨_,rfl⟩
 rw[hz]
 rw[Src.za] at hz
 unfold dj
 simp only[go_sem]
 refine dq (fun k st=>(l.drop k).all (ft lv)=z∧st.f 0=.one (.d (.sl (l.map exD)))∧st.f 1=iv .i64 lv∧st.f 5=iv .i64 k) l.length ⟨hz,?_⟩ ?_
 ·exact VE
 rintro k f g1 ob1 hk ⟨hc,q0,q1,q5⟩
 simp only at q0 q1 q5
 have hw:=ab (k:=k) a6
 by_cases hlt:k<l.length
 case neg=>
  exact Xy
 have hki:(k:Int)<(l.length:Int):=a6
 obtain⟨e,he⟩:=getq hlt
 obtain⟨h1,h2⟩:=cA hc he
 have hi:=Src.ET hin he
 have hsz:=Src.Kv (l0 he)
 have hg:=getD_at (f:=exD) he
 have hel:=cR e
 obtain⟨kind,op,num,name,kids⟩:=e
 rw[szE] at hsz
 rw[inE] at hi
 have hE:=xV kind op num name kids lv hlv fun h=>ih (aG kids) a6 kids (lv+1) (j8 _) hi.1 hi.2 a6
 have hx:exD (.mk kind op num name kids)=[.int .i64 kind,.int .i64 op,.int .u32 num,.str name,.sl (kids.map exD)]:=by simp only[exD,aw]
 unfold exV at hE
 rw[hx] at hg hE
 simp only[l5,v8] at hE
 simp only[go_sem,q0,q1,q5,hki,j4,hg]
 refine bG rfl (by simp only[go_sem];exact hE) ?_
 rintro _ rfl
 cases hr:ft lv (.mk kind op num name kids)
 ·obtain rfl:=h2 hr
  exact VE
 ·exact Yn
end
section
attribute [local congr] Go.Am.ite_cc
open Go Go.Am Go.Asm
open Go.Src (aR ai bX bb fc aX Ex Stm szE aG szS au inE pC inS oF)
theorem xW (kind:Int) (name:Str) (e:List Ex) (th el:List Stm) (lv:Nat) (hlv0:lv≤25) (hE:lv≤24→aq Tryz.prog 183 [dj e,iv .i64 (lv+1:Nat)] (· = bv (bb (lv+1) e)))
  (hT:lv≤24→aq Tryz.prog 69 [dO th,iv .i64 (lv+1:Nat)] (· = bv (aX (lv+1) th))) (hL:lv≤24→aq Tryz.prog 69 [dO el,iv .i64 (lv+1:Nat)] (· = bv (aX (lv+1) el))) :
  aq Tryz.prog 107 [smV (.mk kind name e th el),iv .i64 lv] (· = bv (fc lv (.mk kind name e th el))):=by
 refine hdP Tryz.func107 rfl [4] fun g=>?_
 have hS:smV (.mk kind name e th el)=.agg [.d (.int .i64 kind),.d (.str name),.d (.sl (e.map exD)),.d (.sl (th.map smD)),.d (.sl (el.map smD))]:=by simp only[smV,smD,aw,cK,l5,v8]
 obtain⟨z,hz⟩:∃z,fc lv (.mk kind name e th el)=z:=⟨_,rfl⟩
 rw[hz,hS]
 rw[fc] at hz
 by_cases hlv:(24:Int)<(lv:Int)
 ·obtain rfl:z=false:=by rw[←hz,y7 a6,y9,y9]
  simp only[go_sem,hlv]
 have hle:lv≤24:=a6
 have hwl:=ab (k:=lv) a6
 have hE:=hE hle
 have hT:=hT hle
 have hL:=hL hle
 unfold dj at hE
 unfold dO at hT hL
 have hk:kind=1∨kind=2∨kind=3∨kind=4∨kind=5∨kind=6∨kind=7∨(¬kind=1∧¬kind=2∧¬kind=3∧¬kind=4∧¬kind=5∧¬kind=6∧¬kind=7):=a6
 rcases hk with rfl|rfl|rfl|rfl|rfl|rfl|rfl|⟨k1,k2,k3,k4,k5,k6,k7⟩
 case' inl=>
  by_cases hel:0<(el.length:Int)
  ·exact VI
  have he0:el=[]:=u7 a6
  by_cases hth:0<(th.length:Int)
  ·exact VP
  have ht0:th=[]:=u7 a6
  by_cases hnm:name=[]
  ·exact W4
  simp only[go_sem,j4,hlv,hel,hth,hnm]
  refine bG rfl (by simp only[go_sem];exact ip name) ?_
  rintro _ rfl
  cases hok:aR name
  ·exact XM
  by_cases hn:(e.length:Int)=1
  case neg=>
   exact Wl
  obtain rfl:z=(bb (lv+1) e&&(aX (lv+1) th&&aX (lv+1) el)):=by
   have:e.length=1:=a6
   rw[←hz];simp[bX,ai,hle,this,hok,he0,ht0]
  simp only[go_sem,j4,hn,hwl]
 case' inr.inl=>
  by_cases hel:0<(el.length:Int)
  ·exact VI
  have he0:el=[]:=u7 a6
  by_cases hth:0<(th.length:Int)
  ·exact VP
  have ht0:th=[]:=u7 a6
  by_cases hnm:name=[]
  ·exact W4
  simp only[go_sem,j4,hlv,hel,hth,hnm]
  refine bG rfl (by simp only[go_sem];exact ip name) ?_
  rintro _ rfl
  cases hok:aR name
  ·exact XM
  by_cases hn:(e.length:Int)=2
  case neg=>
   obtain rfl:z=false:=by
    have:¬e.length=2:=a6
    rw[←hz];simp[bX,this]
   simp only[go_sem,j4,hn]
  obtain rfl:z=(bb (lv+1) e&&(aX (lv+1) th&&aX (lv+1) el)):=by
   have:e.length=2:=a6
   rw[←hz];simp[bX,ai,hle,this,hok,he0,ht0]
  simp only[go_sem,j4,hn,hwl]
 case' inr.inr.inl=>
  by_cases hel:0<(el.length:Int)
  ·exact VI
  have he0:el=[]:=u7 a6
  by_cases hth:0<(th.length:Int)
  ·exact VP
  have ht0:th=[]:=u7 a6
  by_cases hnm:name=[]
  case neg=>
   exact Yc
  simp only[go_sem,j4,hlv,hel,hth,hnm]
  by_cases hn:(e.length:Int)=1
  case neg=>
   exact Wl
  obtain rfl:z=(bb (lv+1) e&&(aX (lv+1) th&&aX (lv+1) el)):=by
   have:e.length=1:=a6
   rw[←hz];simp[bX,ai,hle,this,hnm,he0,ht0]
  simp only[go_sem,j4,hn,hwl]
 case' inr.inr.inr.inl=>
  by_cases hnm:name=[]
  case neg=>
   obtain rfl:z=false:=by rw[←hz];simp[bX,ai,hnm]
   simp only[go_sem,j4,hlv,hnm]
  simp only[go_sem,j4,hlv,hnm]
  by_cases hn:(e.length:Int)=1
  case neg=>
   exact Wl
  obtain rfl:z=(bb (lv+1) e&&(aX (lv+1) th&&aX (lv+1) el)):=by
   have:e.length=1:=a6
   rw[←hz];simp[bX,ai,hle,this,hnm]
  simp only[go_sem,j4,hn,hwl]
 case' inr.inr.inr.inr.inl=>
  by_cases hel:0<(el.length:Int)
  ·exact VI
  have he0:el=[]:=u7 a6
  by_cases hnm:name=[]
  case neg=>
   obtain rfl:z=false:=by rw[←hz];simp[bX,ai,hnm]
   simp only[go_sem,j4,hlv,hel,hnm]
  simp only[go_sem,j4,hlv,hel,hnm]
  by_cases hn:(e.length:Int)=1
  case neg=>
   exact Wl
  obtain rfl:z=(bb (lv+1) e&&(aX (lv+1) th&&aX (lv+1) el)):=by
   have:e.length=1:=a6
   rw[←hz];simp[bX,ai,hle,this,hnm,he0]
  simp only[go_sem,j4,hn,hwl]
 case' inr.inr.inr.inr.inr.inl=>
  by_cases hel:0<(el.length:Int)
  ·exact VI
  have he0:el=[]:=u7 a6
  by_cases hth:0<(th.length:Int)
  ·exact VP
  have ht0:th=[]:=u7 a6
  by_cases hnm:name=[]
  ·exact W4
  simp only[go_sem,j4,hlv,hel,hth,hnm]
  refine bG rfl (by simp only[go_sem];exact ip name) ?_
  rintro _ rfl
  cases hok:aR name
  ·exact XM
  by_cases hn:(e.length:Int)≤6
  case neg=>
   obtain rfl:z=false:=by
    have:¬e.length≤6:=a6
    rw[←hz];simp[bX,this]
   simp only[go_sem,j4,hn]
  obtain rfl:z=(bb (lv+1) e&&(aX (lv+1) th&&aX (lv+1) el)):=by
   have:e.length≤6:=a6
   rw[←hz];simp[bX,ai,hle,this,hok,he0,ht0]
  simp only[go_sem,j4,hn,hwl]
 case' inr.inr.inr.inr.inr.inr.inl=>
  by_cases hel:0<(el.length:Int)
  ·exact VI
  have he0:el=[]:=u7 a6
  by_cases hth:0<(th.length:Int)
  ·exact VP
  have ht0:th=[]:=u7 a6
  by_cases hnm:name=[]
  case neg=>
   exact Yc
  simp only[go_sem,j4,hlv,hel,hth,hnm]
  by_cases hn:(e.length:Int)≤1
  case neg=>
   obtain rfl:z=false:=by
    have:¬e.length≤1:=a6
    rw[←hz];simp[bX,this]
   simp only[go_sem,j4,hn]
  obtain rfl:z=(bb (lv+1) e&&(aX (lv+1) th&&aX (lv+1) el)):=by
   have:e.length≤1:=a6
   rw[←hz];simp[bX,ai,hle,this,hnm,he0,ht0]
  simp only[go_sem,j4,hn,hwl]
 case inr.inr.inr.inr.inr.inr.inr=>
  obtain rfl:z=false:=by rw[←hz];simp[bX,k1,k2,k3,k4,k5,k6,k7]
  by_cases hel:0<(el.length:Int)
  ·simp only[go_sem,hlv,j4,k4,hel]
  by_cases hth:0<(th.length:Int)
  ·simp only[go_sem,hlv,j4,k4,hel,k5,hth]
  by_cases hnm:name=[]
  case neg=>simp only[go_sem,hlv,j4,k4,hel,k5,hth,k1,k2,k6,hnm]
  simp only[go_sem,hlv,j4,k4,hel,k5,hth,k1,k2,k6,hnm,k3,k7]
 all_goals refine bG rfl (by simp only[go_sem,hwl];exact hE) ?_
 all_goals rintro _ rfl
 all_goals cases bb (lv+1) e
 all_goals simp only[go_sem,hwl,y9,s7]
 all_goals refine bG rfl (by simp only[go_sem,hwl];exact hT) ?_
 all_goals rintro _ rfl
 all_goals cases aX (lv+1) th
 all_goals simp only[go_sem,hwl,y9,s7]
 all_goals refine bG rfl (by simp only[go_sem,hwl];exact hL) ?_
 all_goals rintro _ rfl
 all_goals simp only[go_sem,s7]
theorem wE:∀(N:Nat) (l:List Stm) (lv:Nat),au l≤N→l.length≤1000000000000000000→oF l→lv≤25→aq Tryz.prog 69 [dO l,iv .i64 lv] (· = bv (aX lv l)):=by
 intro N
 induction N using Nat.strongRecOn with
 |ind N ih=>
 intro l lv hN hl hin hlv
 refine hdP Tryz.func69 rfl [4] fun g=>?_
 obtain⟨z,hz⟩:∃z,aX lv l=z:=⟨_,rfl⟩
 rw[hz]
 rw[Src.zb] at hz
 unfold dO
 simp only[go_sem]
 refine dq (fun k st=>(l.drop k).all (fc lv)=z∧st.f 0=.one (.d (.sl (l.map smD)))∧st.f 1=iv .i64 lv∧st.f 5=iv .i64 k) l.length ⟨hz,?_⟩ ?_
 ·exact VE
 rintro k f g1 ob1 hk ⟨hc,q0,q1,q5⟩
 simp only at q0 q1 q5
 have hw:=ab (k:=k) a6
 by_cases hlt:k<l.length
 case neg=>
  exact Xy
 have hki:(k:Int)<(l.length:Int):=a6
 obtain⟨s,he⟩:=getq hlt
 obtain⟨h1,h2⟩:=cA hc he
 have hi:=Src.EU hin he
 have hsz:=Src.Kw (l0 he)
 have hg:=getD_at (f:=smD) he
 obtain⟨kind,name,e,th,el⟩:=s
 rw[szS] at hsz
 rw[inS] at hi
 have hS:=xW kind name e th el lv hlv (fun h=>wD (aG e) e (lv+1) (j8 _) hi.1.1 hi.1.2 a6) (fun h=>ih (au th) a6 th (lv+1) (j8 _) hi.2.1.1 hi.2.1.2 a6) (fun h=>ih (au el) a6 el (lv+1) (j8 _) hi.2.2.1 hi.2.2.2 a6)
 have hx:smD (.mk kind name e th el)=[.int .i64 kind,.str name,.sl (e.map exD),.sl (th.map smD),.sl (el.map smD)]:=by simp only[smD,aw,cK]
 unfold smV at hS
 rw[hx] at hg hS
 simp only[l5,v8] at hS
 simp only[go_sem,q0,q1,q5,hki,j4,hg]
 refine bG rfl (by simp only[go_sem];exact hS) ?_
 rintro _ rfl
 cases hr:fc lv (.mk kind name e th el)
 ·obtain rfl:=h2 hr
  exact VE
 ·exact Yn
theorem Fp (p:Src.Prog) (hp:Src.InP p):aq Tryz.prog 33 [bO p] (· = bv (Src.dw p)):=by
 refine hdP Tryz.func33 rfl [2] fun g=>?_
 obtain⟨z,hz⟩:∃z,Src.dw p=z:=⟨_,rfl⟩
 rw[hz]
 obtain⟨pv,pa,pf,pfs⟩:=hp
 unfold Src.dw at hz
 rw[cB]
 have hn:=wC p.vars pv
 unfold iY at hn
 simp only[go_sem]
 refine bG rfl (by simp only[go_sem];exact hn) ?_
 rintro _ rfl
 cases hs:p.vars.all aR
 ·obtain rfl:z=false:=by rw[←hz,hs,B3,y9]
  exact VE
 by_cases h1:(p.funcs.length:Int)<1
 ·obtain rfl:z=false:=by rw[←hz,y7 a6,y9,y9]
  simp only[go_sem,j4,h1]
 by_cases h64:64<(p.funcs.length:Int)
 ·obtain rfl:z=false:=by rw[←hz,y7 a6,y9,y9]
  simp only[go_sem,j4,h1,h64]
 rw[hs,A7 a6,s7,s7] at hz
 obtain⟨ga,hga⟩:∃y,p.arrays.all Src.gk=y:=⟨_,rfl⟩
 rw[hga] at hz
 simp only[go_sem,j4,h1,h64]
 refine dq (fun k st=>(p.arrays.drop k).all Src.gk=ga∧st.f 1=.one (.ptr 1 (st.gen 1) 0)∧st.obj 1=some [.d (.sl (p.vars.map fun s=>[.str s])),.d (.sl (p.arrays.map arD)),.d (.sl (p.funcs.map fnD))]∧st.f 3=iv .i64 k) p.arrays.length ⟨hga,?_⟩ ?_
 ·exact VE
 rintro k f g1 ob1 hk ⟨hc,q1,o1,q3⟩
 simp only at q1 o1 q3
 have hw:=ab (k:=k) a6
 by_cases hlt:k<p.arrays.length
 ·have hki:(k:Int)<(p.arrays.length:Int):=a6
  obtain⟨a,hs⟩:=getq hlt
  obtain⟨h1,h2⟩:=cA hc hs
  have hg:=getD_at (f:=arD) hs
  have hai:arD a=[.str a.1,.int .i64 a.2]:=rfl
  rw[hai] at hg
  have hra:Src.gk a=(aR a.1&&decide (1≤a.2)&&decide (a.2≤4096)):=rfl
  have hbad:Src.gk a=false→z=false:=fun e=>by rw[←hz,h2 e,y9]
  simp only[go_sem,q1,o1,q3,hki,j4,hg]
  refine bG rfl (by simp only[go_sem];exact ip a.1) ?_
  rintro _ rfl
  cases hok:aR a.1
  ·obtain rfl:=hbad (by rw[hra,hok];rfl)
   exact VE
  by_cases l1:a.2<1
  ·obtain rfl:=hbad (by rw[hra,y7 (show ¬1≤a.2 by omega),B3,y9])
   simp only[go_sem,q1,o1,q3,hg,l1]
  by_cases l2:4096<a.2
  ·obtain rfl:=hbad (by rw[hra,y7 (show ¬a.2≤4096 by omega),B3])
   simp only[go_sem,q1,o1,q3,hg,l1,l2]
  simp only[go_sem,q1,o1,q3,hg,l1,l2,hw]
  refine bD hlt ⟨h1 (by rw[hra,hok,A7 (show 1≤a.2 by omega),A7 (show a.2≤4096 by omega)];rfl),?_⟩
  exact Xp
 have hki:¬(k:Int)<(p.arrays.length:Int):=a6
 rw[x6 a6] at hc
 rw[show ga=true from hc.symm,s7] at hz
 clear hc hk hlt hga hw
 simp only[go_sem,q1,o1,q3,hki,j4]
 refine dq (fun k st=>(p.funcs.drop k).all Src.eL=z∧st.f 1=.one (.ptr 1 (st.gen 1) 0)∧st.obj 1=some [.d (.sl (p.vars.map fun s=>[.str s])),.d (.sl (p.arrays.map arD)),.d (.sl (p.funcs.map fnD))]∧st.f 4=iv .i64 k) p.funcs.length ⟨hz,?_⟩ ?_
 ·exact Xp
 clear hki q1 o1 q3
 rintro k f g1 ob1 hk ⟨hc,q1,o1,q4⟩
 simp only at q1 o1 q4
 have hw:=ab (k:=k) a6
 by_cases hlt:k<p.funcs.length
 case neg=>
  have hki:¬(k:Int)<(p.funcs.length:Int):=a6
  rw[x6 a6] at hc
  obtain rfl:z=true:=hc.symm
  simp only[go_sem,q1,o1,q4,hki,j4]
 have hki:(k:Int)<(p.funcs.length:Int):=a6
 obtain⟨fn,hs⟩:=getq hlt
 obtain⟨g1,g2⟩:=cA hc hs
 have hg:=getD_at (f:=fnD) hs
 have hfi:fnD fn=[.str fn.name,.sl (fn.params.map fun s=>[.str s]),.sl (fn.locals.map fun s=>[.str s]),.bool fn.word,.sl (fn.body.map smD)]:=rfl
 rw[hfi] at hg
 obtain⟨⟨i1,i2⟩,i3,i4⟩:=pfs fn (l0 hs)
 have hrf:Src.eL fn=(aR fn.name&&decide (fn.params.length≤6)&&(fn.params.all aR&&fn.locals.all aR&&aX 1 fn.body)):=rfl
 rw[hrf] at g1 g2
 have hN1:=wC fn.params i1
 have hN2:=wC fn.locals i2
 have hSt:=wE (au fn.body) fn.body 1 (j8 _) i3 i4 a8
 unfold iY at hN1 hN2
 unfold dO at hSt
 simp only[go_sem,q1,o1,q4,hki,j4,hg]
 refine bG rfl (by simp only[go_sem];exact ip fn.name) ?_
 rintro _ rfl
 cases h1:aR fn.name
 ·obtain rfl:=g2 (by rw[h1];rfl)
  exact VE
 by_cases h6:6<(fn.params.length:Int)
 ·obtain rfl:=g2 (by rw[h1,y7 (show ¬fn.params.length≤6 by omega)];rfl)
  simp only[go_sem,j4,h6]
 rw[h1,A7 (show fn.params.length≤6 by omega),s7,s7] at g1 g2
 simp only[go_sem,j4,h6]
 refine bG rfl (by simp only[go_sem];exact hN1) ?_
 rintro _ rfl
 cases h2:fn.params.all aR
 ·obtain rfl:=g2 (by rw[h2];rfl)
  exact VE
 simp only[go_sem]
 refine bG rfl (by simp only[go_sem];exact hN2) ?_
 rintro _ rfl
 cases h3:fn.locals.all aR
 ·obtain rfl:=g2 (by rw[h2,h3];rfl)
  exact VE
 simp only[go_sem]
 refine bG rfl (by simp only[go_sem];exact hSt) ?_
 rintro _ rfl
 cases h4:aX 1 fn.body
 ·obtain rfl:=g2 (by rw[h2,h3,h4];rfl)
  exact VE
 ·simp only[go_sem,q4,hw]
  refine bD hlt ⟨g1 (by rw[h2,h3,h4];rfl),?_⟩
  exact Xp
end
end Go.Proofs.YtgbcmokfgbmabaaGreatDoorR
namespace Go.Src
section
attribute [local congr] Go.Am.ite_cc
open Go.Asm (Str)
def aJ:Nat→List Str→Str→Int
 |_,[],_=>-1
 |k,x::l,s=>if x=s then(k:Int) else aJ (k+1) l s
theorem gO:∀(l:List Str) (k:Nat) (s:Str),aJ k l s = -1∨((k:Int)≤aJ k l s∧aJ k l s<k+l.length)
 |[],_,_=>.inl rfl
 |x::l,k,s=>by
   rw[aJ,j6]
   split
   ·omega
   ·have:=gO l (k+1) s;omega
def du (l:List Str):Bool:=(List.range l.length).all fun i=>decide (aJ 0 l (l.getD i [])=i)
def ka (f:Fn):List Str:=f.params++f.locals
def ez (p:Prog):List Str:=p.vars++p.arrays.map (·.1)++p.funcs.map (·.name)
def iZ (p:Prog) (f:Fn) (s:Str):Int×Int:=
 if 0≤aJ 0 (ka f) s then(1,aJ 0 (ka f) s)
 else
  let k:=aJ 0 (ez p) s
  if k<0 then(0,-1) else if k<p.vars.length then(2,k) else if k-p.vars.length<p.arrays.length then(3,k-p.vars.length) else(4,k-p.vars.length-p.arrays.length)
end
end Go.Src
namespace Go.Proofs.YtgbcmokfgbmabaaGreatDoorR
section
attribute [local congr] Go.Am.ite_cc
open Go Go.Am Go.Asm
open Go.Src (aJ du ka ez iZ)
theorem wF (l:List Str) (s:Str) (hl:l.length≤1000000000000000000):aq Tryz.prog 49 [iY l,sv s] (· = iv .i64 (aJ 0 l s)):=by
 refine hdP Tryz.func49 rfl [4] fun g=>?_
 obtain⟨z,hz⟩:∃z,aJ 0 l s=z:=⟨_,rfl⟩
 rw[hz]
 unfold iY
 simp only[go_sem]
 refine dq (fun k st=>aJ k (l.drop k) s=z∧st.f 0=.one (.d (.sl (l.map fun s=>[.str s])))∧st.f 1=sv s∧st.f 5=iv .i64 k) l.length ⟨hz,?_⟩ ?_
 ·exact VE
 rintro k f g1 ob1 hk ⟨hc,q0,q1,q5⟩
 simp only at q0 q1 q5
 have hw:=ab (k:=k) a6
 by_cases hlt:k<l.length
 case neg=>
  have hki:¬(k:Int)<(l.length:Int):=a6
  rw[x6 a6,aJ] at hc
  subst hc
  simp only[go_sem,q0,q5,hki,j4]
 have hki:(k:Int)<(l.length:Int):=a6
 obtain⟨x,hx⟩:=getq hlt
 rw[dr hx,aJ] at hc
 have hg:=getD_at (f:=fun s:Str=>[D.str s]) hx
 by_cases hn:x=s
 ·rw[if_pos hn] at hc
  subst hc
  simp only[go_sem,q0,q1,q5,hki,j4,hg,hn]
 ·rw[if_neg hn] at hc
  simp only[go_sem,q0,q1,q5,hki,j4,hg,hn,hw]
  refine bD hlt ⟨hc,?_⟩
  simp only[go_sem,q0,q1]
theorem xX (l:List Str) (hl:l.length≤1000000000000000000):aq Tryz.prog 108 [iY l] (· = bv (du l)):=by
 refine hdP Tryz.func108 rfl [2] fun g=>?_
 obtain⟨z,hz⟩:∃z,du l=z:=⟨_,rfl⟩
 rw[hz]
 unfold du at hz
 have hP:=fun s=>wF l s hl
 unfold iY at hP ⊢
 simp only[go_sem]
 refine dq (fun k st=>((List.range l.length).drop k).all (fun i=>decide (aJ 0 l (l.getD i [])=i))=z∧st.f 0=.one (.d (.sl (l.map fun s=>[.str s])))∧st.f 3=iv .i64 k) l.length ⟨hz,?_⟩ ?_
 ·exact VE
 rintro k f g1 ob1 hk ⟨hc,q0,q3⟩
 simp only at q0 q3
 have hw:=ab (k:=k) a6
 by_cases hlt:k<l.length
 case neg=>
  have hki:¬(k:Int)<(l.length:Int):=a6
  rw[x6 (by simp;omega)] at hc
  obtain rfl:z=true:=hc.symm
  simp only[go_sem,q0,q3,hki,j4]
 have hki:(k:Int)<(l.length:Int):=a6
 obtain⟨x,hx⟩:=getq hlt
 obtain⟨h1,h2⟩:=cA hc (x:=k) (by simp[hlt])
 rw[show l.getD k []=x by simp[hx]] at h1 h2
 have hg:=getD_at (f:=fun s:Str=>[D.str s]) hx
 simp only[go_sem,q0,q3,hki,j4,hg]
 refine bG rfl (by simp only[go_sem];exact hP x) ?_
 rintro _ rfl
 by_cases he:aJ 0 l x=(k:Int)
 ·simp only[go_sem,q0,q3,he,hw]
  refine bD hlt ⟨h1 (A7 he),?_⟩
  exact X7
 ·obtain rfl:=h2 (y7 he)
  simp only[go_sem,q0,q3,he]
theorem Ah (f:Src.Fn):fnV f=.agg [.d (.str f.name),.d (.sl (f.params.map fun s=>[.str s])),.d (.sl (f.locals.map fun s=>[.str s])),.d (.bool f.word),.d (.sl (f.body.map smD))]:=rfl
theorem qF (l:List Str):List.map C.d (l.map fun s=>[D.str s]).flatten=l.map fun w=>.d (.str w):=by
 induction l with
 |nil=>rfl
 |cons a l ih=>simp only[l5,D1,A1,ih];rfl
theorem tD (l:List Str):∀e∈(l.map fun s=>[D.str s]),e.length=1:=fun e he=>by
 obtain⟨s,_,rfl⟩:=F7.1 he;rfl
theorem Bu {o:cn} (f:Src.Fn) (h1:f.params.length≤1000000) (h2:f.locals.length≤1000000):bI Tryz.prog 3 o 46 [fnV f] (· = iY (ka f)):=by
 refine hdG Tryz.func46 rfl [.tmp 2] fun b₀ β0 s0 w0 g=>?_
 rw[Ah]
 simp only[go_sem]
 refine dD aP mixed aN [3] [([],[],[0],false),([1],[0],[],false),([4],[0],[],false),([3,5],[],[0],false),([1],[0],[],false),([7],[0],[],false),([6,8],[],[0],false),([9],[],[],true)] 1 rfl b9 rfl a8 ?_
 simp only[go_sem]
 (apply ci;(case hg=>first|exact w7|exact⟨_,rfl,by decide,rfl⟩);(case h1=>intro fa ga oa K' hK;simp only[go_sem] at hK ⊢;exact hK))
 iterate 2 (apply ax;(case hg=>first|exact w7|exact⟨_,rfl,by decide,rfl⟩);(case h1=>intro fa ga oa K' hK;simp only[go_sem] at hK ⊢;exact hK))
 (apply ci;(case hg=>exact w7);(case h1=>intro fa ga oa K' hK;simp only[go_sem,qF,j4] at hK ⊢;exact⟨tD _,⟨a8,a6⟩,hK⟩))
 iterate 2 (apply ax;(case hg=>first|exact w7|exact⟨_,rfl,by decide,rfl⟩);(case h1=>intro fa ga oa K' hK;simp only[go_sem] at hK ⊢;exact hK))
 (apply ci;(case hg=>exact w7);(case h1=>intro fa ga oa K' hK;simp only[go_sem,qF,j4] at hK ⊢;exact⟨a6,tD _,⟨a8,a6⟩,hK⟩))
 refine dE w7 ?_
 intro K' hK'
 simp only[go_sem]
 refine hK' _ ?_
 clear hK' K'
 simp only[go_sem]
 refine⟨_,⟨_,pL (L:=ka f) (by simp[upd]) (by simp[upd,ka,l7]) (by simp[ka]),rfl⟩,rfl⟩
theorem vu (p:Src.Prog) (hv:p.vars.length≤1000000) (ha:p.arrays.length≤1000000) (hf:p.funcs.length≤1000000):aq Tryz.prog 45 [bO p] (· = iY (ez p)):=by
 refine hdP Tryz.func45 rfl [2] fun g=>?_
 rw[cB]
 simp only[go_sem,qF,j4]
 refine⟨tD _,⟨a8,a6⟩,?_⟩
 refine dq (fun k st=>∃G:List Str,G++(p.arrays.drop k).map (·.1)++p.funcs.map (·.name)=ez p∧G.length=p.vars.length+k∧st.f 1=.one (.ptr 1 (st.gen 1) 0)∧st.obj 1=some [.d (.sl (p.vars.map fun s=>[.str s])),.d (.sl (p.arrays.map arD)),.d (.sl (p.funcs.map fnD))]∧st.f 3=.one (.osl 6 (st.gen 6) 1 0 G.length)∧st.obj 6=some (G.map fun w=>.d (.str w))∧st.f 4=iv .i64 k) p.arrays.length ⟨p.vars,rfl,rfl,?_⟩ ?_
 ·exact VE
 rintro k f g1 ob1 hk ⟨G,hG,hGl,q1,o1,q3,o6,q4⟩
 simp only at q1 o1 q3 o6 q4
 have hw:=ab (k:=k) a6
 by_cases hlt:k<p.arrays.length
 ·have hki:(k:Int)<(p.arrays.length:Int):=a6
  obtain⟨a,hs⟩:=getq hlt
  have hg:=getD_at (f:=arD) hs
  have hai:arD a=[.str a.1,.int .i64 a.2]:=rfl
  rw[hai] at hg
  simp only[go_sem,q1,o1,q3,o6,q4,hki,j4,hg,hw]
  refine⟨j8 _,⟨a8,a6⟩,bD hlt ⟨G++[a.1],?_,by simp;omega,?_⟩⟩
  ·rw[←hG,dr hs];simp
  ·simp only[go_sem,q1,o1,j5,A1]
   rw[l7 a7]
 have hki:¬(k:Int)<(p.arrays.length:Int):=a6
 rw[x6 a6] at hG
 simp only[go_sem,q1,o1,q3,q4,hki,j4]
 refine dq (fun k st=>∃G:List Str,G++(p.funcs.drop k).map (·.name)=ez p∧G.length≤2000000+k∧st.f 1=.one (.ptr 1 (st.gen 1) 0)∧st.obj 1=some [.d (.sl (p.vars.map fun s=>[.str s])),.d (.sl (p.arrays.map arD)),.d (.sl (p.funcs.map fnD))]∧st.f 3=.one (.osl 6 (st.gen 6) 1 0 G.length)∧st.obj 6=some (G.map fun w=>.d (.str w))∧st.f 5=iv .i64 k) p.funcs.length ⟨G,by rw[←hG];simp,a6,?_⟩ ?_
 ·simp only[go_sem,q1,o1,q3,o6]
 clear q1 o1 q3 o6 q4 hki hw hlt hG hGl hk G
 rintro k f g1 ob1 hk ⟨G,hG,hGl,q1,o1,q3,o6,q5⟩
 simp only at q1 o1 q3 o6 q5
 have hw:=ab (k:=k) a6
 by_cases hlt:k<p.funcs.length
 ·have hki:(k:Int)<(p.funcs.length:Int):=a6
  obtain⟨fn,hs⟩:=getq hlt
  have hg:=getD_at (f:=fnD) hs
  have hfi:fnD fn=[.str fn.name,.sl (fn.params.map fun s=>[.str s]),.sl (fn.locals.map fun s=>[.str s]),.bool fn.word,.sl (fn.body.map smD)]:=rfl
  rw[hfi] at hg
  simp only[go_sem,q1,o1,q3,o6,q5,hki,j4,hg,hw]
  refine⟨j8 _,⟨a8,a6⟩,bD hlt ⟨G++[fn.name],?_,by simp;omega,?_⟩⟩
  ·rw[←hG,dr hs];simp
  ·simp only[go_sem,q1,o1,j5,A1]
   rw[l7 a7]
 have hki:¬(k:Int)<(p.funcs.length:Int):=a6
 rw[x6 a6,v8,l8] at hG
 simp only[go_sem,q1,o1,q3,q5,hki,j4]
 exact⟨_,⟨_,pL rfl o6 rfl,rfl⟩,by rw[←hG];rfl⟩
theorem tE {s:St}{a b:Int}:nX s [iv .i64 a,iv .i64 b] (.tup [iv .i64 a,iv .i64 b]):=⟨_,⟨_,_,rfl,jb _,_,_,rfl,jb _,rfl⟩,rfl⟩
theorem Fq {o:cn} (p:Src.Prog) (hv:p.vars.length≤1000000) (ha:p.arrays.length≤1000000) (hf:p.funcs.length≤1000000) (i:Nat) (fn:Src.Fn) (hi:p.funcs[i]? = some fn) (h1:fn.params.length≤1000000) (h2:fn.locals.length≤1000000) (s:Str) :
  bI Tryz.prog 3 o 109 [bO p,iv .i64 i,sv s] (· = .tup [iv .i64 (iZ p fn s).1,iv .i64 (iZ p fn s).2]):=by
 refine hdG Tryz.func109 rfl [.tmp 6,.tmp 7] fun b₀ β0 s0 w0 g=>?_
 have hil:=(l4.1 hi).1
 have hii:(i:Int)<(p.funcs.length:Int):=a6
 have hg:=getD_at (f:=fnD) hi
 have hfi:fnD fn=[.str fn.name,.sl (fn.params.map fun s=>[.str s]),.sl (fn.locals.map fun s=>[.str s]),.bool fn.word,.sl (fn.body.map smD)]:=rfl
 rw[hfi] at hg
 have hN:=Bu (o:=o) fn h1 h2
 have hol:(ka fn).length≤2000000:=by simp[ka];omega
 have hgl:(ez p).length≤3000000:=by simp[ez];omega
 have hG:=vu p hv ha hf
 rw[Ah] at hN
 rw[cB] at hG ⊢
 simp only[go_sem,hii,j4,hg]
 refine ck rfl (by simp only[go_sem];exact hN) ?_
 rintro _ rfl
 simp only[go_sem]
 refine gZ rfl (by simp only[go_sem];exact wF (ka fn) s a6) ?_
 rintro _ rfl
 unfold iZ
 obtain⟨k,hk⟩:∃k,aJ 0 (ka fn) s=k:=⟨_,rfl⟩
 rw[hk]
 by_cases h0:0≤k
 ·simp only[go_sem,h0]
  exact⟨_,tE,rfl⟩
 rw[if_neg h0]
 simp only[go_sem,h0]
 refine gZ rfl (by simp only[go_sem];exact hG) ?_
 rintro _ rfl
 simp only[go_sem]
 refine gZ rfl (by simp only[go_sem];exact wF (ez p) s a6) ?_
 rintro _ rfl
 have hge:=Src.gO (ez p) 0 s
 obtain⟨k,hk⟩:∃k,aJ 0 (ez p) s=k:=⟨_,rfl⟩
 rw[hk] at hge ⊢
 by_cases hn:k<0
 ·simp only[go_sem,hn]
  exact⟨_,tE,rfl⟩
 by_cases hkv:k<(p.vars.length:Int)
 ·simp only[go_sem,hn,hkv,j4]
  exact⟨_,tE,rfl⟩
 have hw1:IntKind.i64.wrap (k-(p.vars.length:Int))=k-p.vars.length:=wrap_i64 _ a6 a6
 by_cases hka:k-(p.vars.length:Int)<(p.arrays.length:Int)
 ·simp only[go_sem,hn,hkv,j4,hw1,hka]
  exact⟨_,tE,rfl⟩
 have hw2:IntKind.i64.wrap (k-(p.vars.length:Int)-(p.arrays.length:Int))=k-p.vars.length-p.arrays.length:=wrap_i64 _ a6 a6
 simp only[go_sem,hn,hkv,j4,hw1,hka]
 refine aL b9 ?_
 simp only[go_sem,hw1,hw2,j4]
 exact⟨_,tE,by rw[if_neg hn,if_neg hkv,if_neg hka]⟩
end
end Go.Proofs.YtgbcmokfgbmabaaGreatDoorR
namespace Go.Src
section
attribute [local congr] Go.Am.ite_cc
open Go.Asm (Str)
abbrev Us:=Str×Int×Int
def us1 (kind:Int) (name:Str) (n:Nat):List Us:=if kind=2 then [(name,1,0)] else if kind=3 then [(name,3,0)] else if kind=4 then [(name,4,(n:Int))] else []
mutual
def usE:Ex→List Us
 |.mk kind _ _ name kids=>us1 kind name kids.length++ku kids
def ku:List Ex→List Us
 |[]=>[]
 |e::l=>usE e++ku l
end
def us2 (kind:Int) (name:Str) (n:Nat):List Us:=if kind=1 then [(name,1,0)] else if kind=2 then [(name,3,0)] else if kind=6 then [(name,4,(n:Int))] else []
mutual
def usS:Stm→List Us
 |.mk kind name e th el=>us2 kind name e.length++ku e++fS th++fS el
def fS:List Stm→List Us
 |[]=>[]
 |e::l=>usS e++fS l
end
mutual
theorem IP:∀e:Ex,(usE e).length≤szE e
 |.mk kind _ _ name kids=>by
   have h:=tF kids
   rw[usE,szE,j5]
   have:(us1 kind name kids.length).length≤1:=by unfold us1;(repeat' split) <;> simp
   omega
theorem tF:∀l:List Ex,(ku l).length≤aG l
 |[]=>by simp[ku]
 |e::l=>by
   have:=IP e
   have:=tF l
   rw[ku,aG,j5];omega
end
mutual
theorem IQ:∀e:Stm,(usS e).length≤szS e
 |.mk kind name e th el=>by
   have:=tF e
   have:=tG th
   have:=tG el
   rw[usS,szS]
   simp only[j5]
   have:(us2 kind name e.length).length≤1:=by unfold us2;(repeat' split) <;> simp
   omega
theorem tG:∀l:List Stm,(fS l).length≤au l
 |[]=>by simp[fS]
 |e::l=>by
   have:=IQ e
   have:=tG l
   rw[fS,au,j5];omega
end
end
end Go.Src
namespace Go.Proofs.YtgbcmokfgbmabaaGreatDoorR
section
attribute [local congr] Go.Am.ite_cc
open Go Go.Am Go.Asm
open Go.Src (Ex Stm Us us1 us2 usE ku usS fS szE aG szS au)
def usD (u:Us):List D:=[.str u.1,.int .i64 u.2.1,.int .i64 u.2.2]
def pH (l:List Us):AV:=.one (.d (.sl (l.map usD)))
def usC (l:List Us):List C:=l.flatMap fun u=>(usD u).map .d
theorem nw (l:List Us):(usC l).length=l.length*3:=by
 induction l with
 |nil=>rfl
 |cons a l ih=>simp only[usC,D3,j5] at ih ⊢;rw[ih];simp[usD];omega
theorem Bv (a b:List Us):usC (a++b)=usC a++usC b:=by simp[usC]
theorem sm (l:List Us):List.map C.d (l.map usD).flatten=usC l:=by
 induction l with
 |nil=>rfl
 |cons a l ih=>simp only[l5,D1,A1,ih];rfl
theorem pI (l:List Us):∀e∈l.map usD,e.length=3:=fun e he=>by
 obtain⟨s,_,rfl⟩:=F7.1 he;rfl
theorem Fr {s:St}{id g:Nat}{l:List Us} (hg:s.gen id=g) (ho:s.obj id=some (usC l)):jK s (.one (.osl id g 3 0 l.length)) (pH l):=
 ⟨_,dm hg l usD ho rfl (fun a _ x hx=>by simp only[usD,z6,A4,E3] at hx;rcases hx with rfl|rfl|rfl <;> rfl) (fun _ _=>rfl) rfl,rfl⟩
theorem IR {o:cn}:∀(N:Nat) (l:List Ex),aG l≤N→N≤1000000→bI Tryz.prog 3 o 86 [dj l] (· = pH (ku l)):=by
 intro N
 induction N using Nat.strongRecOn with
 |ind N ih=>
 intro l hN hNb
 refine hdG Tryz.func86 rfl [.tmp 2] fun b₀ β0 s0 w0 g=>?_
 have hll:=Src.Hl l
 have hul:=Src.tF l
 unfold dj
 simp only[go_sem]
 refine ES _ (sf (t:=3) (id:=100) (sz:=3) (by simp only[go_sem])) (fun k st=>∃G:List Us,G++ku (l.drop k)=ku l∧st.f 0=.one (.d (.sl (l.map exD)))∧st.f 3=.one (.osl 100 (st.gen 100) 3 0 G.length)∧st.obj 100=some (usC G)∧st.f 4=iv .i64 k) l.length ⟨[],rfl,?_⟩ ?_
 ·simp only[St.grab]
  simp only[go_sem]
  rfl
 rintro k f g1 ob1 hk ⟨G,hG,q0,q3,oi,q4⟩
 simp only at q0 q3 oi q4
 have hw:=ab (k:=k) a6
 by_cases hlt:k<l.length
 case neg=>
  have hki:¬(k:Int)<(l.length:Int):=a6
  rw[x6 a6,ku,l8] at hG
  rw[←hG]
  simp only[go_sem,q0,q3,q4,hki,j4]
  exact⟨_,Fr rfl oi,rfl⟩
 have hki:(k:Int)<(l.length:Int):=a6
 obtain⟨e,he⟩:=getq hlt
 have hsz:=Src.Kv (l0 he)
 have hg:=getD_at (f:=exD) he
 obtain⟨kind,op,num,name,kids⟩:=e
 rw[dr he,ku,usE] at hG
 rw[szE] at hsz
 have hx:exD (.mk kind op num name kids)=[.int .i64 kind,.int .i64 op,.int .u32 num,.str name,.sl (kids.map exD)]:=by simp only[exD,aw]
 rw[hx] at hg
 have hK:=ih (aG kids) a6 kids (j8 _) a6
 have hku:=Src.tF kids
 unfold dj at hK
 have hGl:G.length+(ku kids).length+1≤1000001:=by
  have:=congrArg List.length hG
  simp only[j5] at this
  omega
 obtain⟨u,hu⟩:∃u,us1 kind name kids.length=u:=⟨_,rfl⟩
 rw[hu] at hG
 unfold us1 at hu
 have hC:=nw G
 by_cases k2:kind=2
 case' pos=>
  rw[if_pos k2] at hu
  simp only[go_sem,q0,q3,oi,q4,hki,j4,hg,k2]
  refine⟨a6,⟨a8,a6⟩,?_⟩
 case' neg=>
  rw[if_neg k2] at hu
  by_cases k3:kind=3
  case' pos=>
   rw[if_pos k3] at hu
   simp only[go_sem,q0,q3,oi,q4,hki,j4,hg,k3]
   refine⟨a6,⟨a8,a6⟩,?_⟩
  case' neg=>
   rw[if_neg k3] at hu
   by_cases k4:kind=4
   case' pos=>
    rw[if_pos k4] at hu
    simp only[go_sem,q0,q3,oi,q4,hki,j4,hg,k4]
    refine dD aP mixed aN [53,100] [([3],[0],[],false),([0],[],[],false),([4],[],[],false),([41,42],[],[],false),([43],[],[],false),([44],[],[],false),([0],[],[],false),([4],[],[],false),([46,47],[],[],false),([48],[],[],false),([49],[],[],false),([50],[],[],false),([45,51],[],[],false),([52],[],[0],false),([40,53],[],[1],false),([54],[],[],true)] 2 rfl b9 rfl a8 ?_
    simp only[go_sem]
    iterate 13 (apply ax;(case hg=>first|exact w7|exact⟨_,rfl,by decide,rfl⟩);(case h1=>intro fa ga oa K' hK;simp only[go_sem,q0,q3,q4,hki,hg,j4] at hK ⊢;exact hK))
    (apply ci;(case hg=>first|exact w7|exact⟨_,rfl,by decide,rfl⟩);(case h1=>intro fa ga oa K' hK;simp only[go_sem] at hK ⊢;exact hK))
    (apply ci;(case hg=>exact w7);(case h1=>intro fa ga oa K' hK;simp only[go_sem,oi] at hK ⊢;exact⟨a6,⟨a8,a6⟩,hK⟩))
    refine dE w7 ?_
    intro K' hK'
    simp only[go_sem]
    refine hK' _ ?_
    clear hK' K'
    simp only[go_sem,q0,q4,hg]
   case' neg=>
    rw[if_neg k4] at hu
    simp only[go_sem,q0,q3,oi,q4,hki,j4,hg,k2,k3,k4]
 all_goals refine ck rfl (by simp only[go_sem];exact hK) ?_
 all_goals rintro _ rfl
 all_goals unfold pH
 all_goals simp only[go_sem,sm,j4,q3,oi,q4,hw]
 all_goals refine⟨by simp only[j5,C2,hC,j6,j7];omega,pI _,⟨a8,a6⟩,bD hlt ⟨G++u++ku kids,by rw[←hG];simp only[s5],?_⟩⟩
 all_goals subst hu
 all_goals simp only[go_sem,q0,j5,Bv,l7,hC,j8]
 all_goals rw[l7 (by simp only[j5,hC,j6,j7];omega)];rfl
theorem Fs {o:cn}:∀(N:Nat) (l:List Stm),au l≤N→N≤1000000→bI Tryz.prog 3 o 47 [dO l] (· = pH (fS l)):=by
 intro N
 induction N using Nat.strongRecOn with
 |ind N ih=>
 intro l hN hNb
 refine hdG Tryz.func47 rfl [.tmp 2] fun b₀ β0 s0 w0 g=>?_
 have hll:=Src.Hm l
 have hul:=Src.tG l
 unfold dO
 simp only[go_sem]
 refine ES _ (sf (t:=3) (id:=100) (sz:=3) (by simp only[go_sem])) (fun k st=>∃G:List Us,G++fS (l.drop k)=fS l∧st.f 0=.one (.d (.sl (l.map smD)))∧st.f 3=.one (.osl 100 (st.gen 100) 3 0 G.length)∧st.obj 100=some (usC G)∧st.f 4=iv .i64 k) l.length ⟨[],rfl,?_⟩ ?_
 ·simp only[St.grab]
  simp only[go_sem]
  rfl
 rintro k f g1 ob1 hk ⟨G,hG,q0,q3,oi,q4⟩
 simp only at q0 q3 oi q4
 have hw:=ab (k:=k) a6
 by_cases hlt:k<l.length
 case neg=>
  have hki:¬(k:Int)<(l.length:Int):=a6
  rw[x6 a6,fS,l8] at hG
  rw[←hG]
  simp only[go_sem,q0,q3,q4,hki,j4]
  exact⟨_,Fr rfl oi,rfl⟩
 have hki:(k:Int)<(l.length:Int):=a6
 obtain⟨e,he⟩:=getq hlt
 have hsz:=Src.Kw (l0 he)
 have hg:=getD_at (f:=smD) he
 obtain⟨kind,name,e,th,el⟩:=e
 rw[dr he,fS,usS] at hG
 rw[szS] at hsz
 have hx:smD (.mk kind name e th el)=[.int .i64 kind,.str name,.sl (e.map exD),.sl (th.map smD),.sl (el.map smD)]:=by simp only[smD,aw,cK]
 rw[hx] at hg
 have hE:=IR (o:=o) (aG e) e (j8 _) a6
 have hT:=ih (au th) a6 th (j8 _) a6
 have hL:=ih (au el) a6 el (j8 _) a6
 unfold dj at hE
 unfold dO at hT hL
 have hGl:G.length+(ku e).length+(fS th).length+(fS el).length+1≤1000001:=by
  have:=congrArg List.length hG
  simp only[j5] at this
  omega
 obtain⟨u,hu⟩:∃u,us2 kind name e.length=u:=⟨_,rfl⟩
 rw[hu] at hG
 unfold us2 at hu
 have hC:=nw G
 by_cases k2:kind=1
 case' pos=>
  rw[if_pos k2] at hu
  simp only[go_sem,q0,q3,oi,q4,hki,j4,hg,k2]
  refine⟨a6,⟨a8,a6⟩,?_⟩
 case' neg=>
  rw[if_neg k2] at hu
  by_cases k3:kind=2
  case' pos=>
   rw[if_pos k3] at hu
   simp only[go_sem,q0,q3,oi,q4,hki,j4,hg,k3]
   refine⟨a6,⟨a8,a6⟩,?_⟩
  case' neg=>
   rw[if_neg k3] at hu
   by_cases k4:kind=6
   case' pos=>
    rw[if_pos k4] at hu
    simp only[go_sem,q0,q3,oi,q4,hki,j4,hg,k4]
    refine dD aP mixed aN [53,100] [([3],[0],[],false),([0],[],[],false),([4],[],[],false),([41,42],[],[],false),([43],[],[],false),([44],[],[],false),([0],[],[],false),([4],[],[],false),([46,47],[],[],false),([48],[],[],false),([49],[],[],false),([50],[],[],false),([45,51],[],[],false),([52],[],[0],false),([40,53],[],[1],false),([54],[],[],true)] 2 rfl b9 rfl a8 ?_
    simp only[go_sem]
    iterate 13 (apply ax;(case hg=>first|exact w7|exact⟨_,rfl,by decide,rfl⟩);(case h1=>intro fa ga oa K' hK;simp only[go_sem,q0,q3,q4,hki,hg,j4] at hK ⊢;exact hK))
    (apply ci;(case hg=>first|exact w7|exact⟨_,rfl,by decide,rfl⟩);(case h1=>intro fa ga oa K' hK;simp only[go_sem] at hK ⊢;exact hK))
    (apply ci;(case hg=>exact w7);(case h1=>intro fa ga oa K' hK;simp only[go_sem,oi] at hK ⊢;exact⟨a6,⟨a8,a6⟩,hK⟩))
    refine dE w7 ?_
    intro K' hK'
    simp only[go_sem]
    refine hK' _ ?_
    clear hK' K'
    simp only[go_sem,q0,q4,hg]
   case' neg=>
    rw[if_neg k4] at hu
    simp only[go_sem,q0,q3,oi,q4,hki,j4,hg,k2,k3,k4]
 all_goals refine ck rfl (by simp only[go_sem];exact hE) ?_
 all_goals rintro _ rfl
 all_goals unfold pH
 all_goals simp only[go_sem,sm,j4,q0,q3,oi,q4,hg]
 all_goals refine⟨by simp only[j5,C2,nw,j6,j7];omega,pI _,⟨a8,a6⟩,?_⟩
 all_goals try simp only[go_sem,q0,q4,hg]
 all_goals refine ck rfl (by simp only[go_sem];exact hT) ?_
 all_goals rintro _ rfl
 all_goals unfold pH
 all_goals simp only[go_sem,sm,j4,q0,q4,hg]
 all_goals refine⟨by simp only[j5,C2,nw,j6,j7];omega,pI _,⟨a8,a6⟩,?_⟩
 all_goals try simp only[go_sem,q0,q4,hg]
 all_goals refine ck rfl (by simp only[go_sem];exact hL) ?_
 all_goals rintro _ rfl
 all_goals unfold pH
 all_goals simp only[go_sem,sm,j4,q0,q4,hw]
 all_goals refine⟨by simp only[j5,C2,nw,j6,j7];omega,pI _,⟨a8,a6⟩,bD hlt ⟨G++u++ku e++fS th++fS el,by rw[←hG];simp only[s5],?_⟩⟩
 all_goals subst hu
 all_goals simp only[go_sem,q0,j5,Bv]
 all_goals (repeat rw[l7 (by simp only[j5,C2,nw,j6,j7];omega)])
 all_goals rfl
end
end Go.Proofs.YtgbcmokfgbmabaaGreatDoorR
namespace Go.Src
section
open Go.Asm (Str)
theorem oK:∀(a b:List Str) (k:Nat) (s:Str),aJ k (a++b) s=if aJ k a s<0 then aJ (k+a.length) b s else aJ k a s
 |[],b,k,s=>by simp[aJ]
 |x::a,b,k,s=>by
   rw[A2,aJ,aJ]
   by_cases h:x=s
   ·rw[if_pos h,if_pos h,if_neg a6]
   ·rw[if_neg h,if_neg h,oK a b,j6,show k+1+a.length=k+(a.length+1) by omega]
def thG (c:Nat):Nat→List Str→List Th
 |_,[]=>[]
 |k,x::l=>(x,c,k)::thG c (k+1) l
theorem Bw (c:Nat):∀(a b:List Str) (k:Nat),thG c k (a++b)=thG c k a++thG c (k+a.length) b
 |[],b,k=>by simp[thG]
 |x::a,b,k=>by simp only[A2,thG,Bw c a b,j6];rw[show k+1+a.length=k+(a.length+1) by omega]
theorem iL {α:Type} (c:Nat) (g:α→Str):∀(l:List α) (k:Nat),l.mapIdx (fun i x=>(g x,c,k+i))=thG c k (l.map g)
 |[],k=>rfl
 |x::l,k=>by
   rw[L9,l5,thG,←iL c g l (k+1)]
   simp only[K7]
   congr 2
   funext i y
   rw[show k+(i+1)=k+1+i by omega]
theorem ja (c:Nat) (s:Str):∀(l:List Str) (k:Nat),az (thG c k l) s=if aJ k l s<0 then none else some (c,(aJ k l s).toNat)
 |[],k=>rfl
 |x::l,k=>by
   rw[thG,az,aJ]
   by_cases h:x=s
   ·rw[if_pos h,if_pos h,if_neg a6];rfl
   ·rw[if_neg h,if_neg h,ja c s l (k+1)]
theorem tH (f:Fn):aW f=thG 1 0 (ka f):=by
 unfold aW thL ka
 rw[Bw]
 have h1:=iL 1 (fun n:Str=>n) f.params 0
 have h2:=iL 1 (fun n:Str=>n) f.locals f.params.length
 rw[List.map_id'] at h1 h2
 rw[h1,h2,C0]
theorem tJ (p:Prog):aV p=thG 2 0 p.vars++thG 3 0 (p.arrays.map (·.1))++thG 4 0 (p.funcs.map (·.name)):=by
 unfold aV thV thA thF
 have h1:=iL 2 (fun n:Str=>n) p.vars 0
 rw[List.map_id'] at h1
 have h2:=iL 3 (fun a:Str×Int=>a.1) p.arrays 0
 have h3:=iL 4 (fun f:Fn=>f.name) p.funcs 0
 simp only[C0] at h1 h2 h3
 rw[h1,h2,h3]
theorem js:∀(l:List Str) (k:Nat) (s:Str),aJ k l s=if aJ 0 l s<0 then -1 else aJ 0 l s+k
 |[],_,_=>rfl
 |x::l,k,s=>by
   rw[aJ,aJ]
   by_cases h:x=s
   ·rw[if_pos h,if_pos h,if_neg a6];omega
   ·rw[if_neg h,if_neg h,js l (k+1),js l (0+1)]
    have:=gO l 0 s
    split
    ·rfl
    ·rw[if_neg a6];omega
theorem xY (p:Prog) (f:Fn) (s:Str):iZ p f s=match aU (aV p) (aW f) s with|some x=>((x.1:Int),(x.2:Int))|none=>(0,-1):=by
 unfold iZ aU
 rw[tH,ja,tJ,kp,kp,ja,ja,ja]
 have g1:=gO (ka f) 0 s
 by_cases h:aJ 0 (ka f) s<0
 case neg=>
  rw[if_pos a6,if_neg h]
  simp only
  rw[L6 a6]
  rfl
 rw[if_neg a6,if_pos h]
 simp only
 have g2:=gO p.vars 0 s
 have g3:=gO (p.arrays.map (·.1)) 0 s
 have g4:=gO (p.funcs.map (·.name)) 0 s
 rw[j4] at g3 g4
 have hK:aJ 0 (ez p) s=if aJ 0 p.vars s<0 then(if aJ 0 (p.arrays.map (·.1)) s<0 then(if aJ 0 (p.funcs.map (·.name)) s<0 then -1 else aJ 0 (p.funcs.map (·.name)) s+((p.vars.length+p.arrays.length:Nat):Int)) else aJ 0 (p.arrays.map (·.1)) s+p.vars.length) else aJ 0 p.vars s:=by
  unfold ez
  rw[oK,oK,C0,C0,js _ p.vars.length,js _ (p.vars++p.arrays.map (·.1)).length,j5,j4]
  (repeat' split) <;> omega
 rw[hK]
 generalize aJ 0 p.vars s=a at g2 ⊢
 generalize aJ 0 (p.arrays.map (·.1)) s=b at g3 ⊢
 generalize aJ 0 (p.funcs.map (·.name)) s=c at g4 ⊢
 by_cases ha:a<0
 case neg=>
  rw[if_neg ha,if_neg ha,if_neg ha,if_pos a6]
  simp only
  rw[L6 a6]
  rfl
 rw[if_pos ha,if_pos ha]
 simp only
 by_cases hb:b<0
 case neg=>
  rw[if_neg hb,if_neg hb,if_neg a6,if_neg a6,if_pos a6]
  simp only
  rw[L6 a6,show b+(p.vars.length:Int)-p.vars.length=b by omega]
  rfl
 rw[if_pos hb,if_pos hb]
 simp only
 by_cases hc:c<0
 case neg=>
  rw[if_neg hc,if_neg hc,if_neg a6,if_neg a6,if_neg a6]
  simp only
  rw[L6 a6,show c+((p.vars.length+p.arrays.length:Nat):Int)-p.vars.length-p.arrays.length=c by omega]
  rfl
 rw[if_pos hc,if_pos hc]
 rfl
theorem Bx {l:List Str}{i:Nat} (h:i<l.length):l.getD i []=l[i]:=by simp[List.getD,h]
theorem rA:∀(l:List Str) (k:Nat),(∀i,i<l.length→aJ k l (l.getD i [])=((k+i:Nat):Int))↔l.Nodup
 |[],k=>by simp
 |x::l,k=>by
   rw[N8,←rA l (k+1)]
   constructor
   ·intro h
    have hx:∀i,i<l.length→x≠l.getD i []∧aJ (k+1) l (l.getD i [])=((k+1+i:Nat):Int):=fun i hi=>by
     have:=h (i+1) (by simp;omega)
     rw[Q5,aJ] at this
     split at this
     ·omega
     ·rename_i hne;exact⟨hne,by rw[this];congr 1;omega⟩
    refine⟨fun hm=>?_,fun i hi=>(hx i hi).2⟩
    obtain⟨i,hi,e⟩:=List.getElem_of_mem hm
    exact(hx i hi).1 (by rw[Bx hi,e])
   ·rintro⟨hm,h⟩ i hi
    cases i with
    |zero=>rw[List.getD_cons_zero,aJ,if_pos rfl];rfl
    |succ i=>
      have hi:i<l.length:=by simpa using hi
      rw[Q5,aJ,if_neg (fun e=>hm (by rw[e,Bx hi];exact L8 hi)),h i hi]
      congr 1;omega
theorem rB (l:List Str):du l=true↔l.Nodup:=by
 rw[←rA l 0]
 unfold du
 simp only[x7,D5,A6,C0]
theorem wG {l:List Th}{s:Str}:(az l s).isNone=true↔s∉l.map (·.1):=by
 induction l with
 |nil=>simp[az]
 |cons t l ih=>
   rw[az]
   by_cases h:t.1=s
   ·simp[h]
   ·rw[if_neg h,ih]
    simp only[l5,z6,not_or]
    exact⟨fun x=>⟨A3 h,x⟩,fun x=>x.2⟩
theorem mO:∀(l seen:List Th),bA seen l=true↔(∀t∈l,t.1∉seen.map (·.1))∧(l.map (·.1)).Nodup
 |[],seen=>by simp[bA]
 |t::l,seen=>by
   rw[bA,l6,wG,mO l]
   simp only[A1,l5,v8,B9,C4,List.forall_mem_cons,N8,not_or]
   constructor
   ·rintro⟨h1,h2,h3⟩
    exact⟨⟨h1,fun x hx=>(h2 x hx).1⟩,fun hm=>by obtain⟨y,hy,e⟩:=F7.1 hm;exact(h2 y hy).2 e,h3⟩
   ·rintro⟨⟨h1,h2⟩,h3,h4⟩
    exact⟨h1,fun x hx=>⟨h2 x hx,fun e=>h3 (by rw[←e];exact List.mem_map_of_mem hx)⟩,h4⟩
theorem pJ (c:Nat):∀(l:List Str) (k:Nat),(thG c k l).map (·.1)=l
 |[],_=>rfl
 |x::l,k=>by rw[thG,l5,pJ c l]
theorem Ai (f:Fn):bA [] (aW f)=du (ka f):=by
 rw[N7,mO,rB,tH,pJ]
 simp
theorem Aj (p:Prog):bA [] (aV p)=du (ez p):=by
 rw[N7,mO,rB,tJ,A1,A1,pJ,pJ,pJ]
 simp[ez]
def asK (a:Int):Nat:=if a=1 then 2 else a.toNat
def vU (u:Nat→Str→Nat→Bool) (x:Us):Bool:=u (asK x.2.1) x.1 x.2.2.toNat
theorem IS (u:Nat→Str→Nat→Bool) (kind:Int) (name:Str) (n:Nat):(us1 kind name n).all (vU u)=if kind=2 then u 2 name 0 else if kind=3 then u 3 name 0 else if kind=4 then u 4 name n else true:=by
 unfold us1
 (repeat' split) <;> simp[vU,asK]
theorem IT (u:Nat→Str→Nat→Bool) (kind:Int) (name:Str) (n:Nat):(us2 kind name n).all (vU u)=if kind=1 then u 2 name 0 else if kind=2 then u 3 name 0 else if kind=6 then u 4 name n else true:=by
 unfold us2
 (repeat' split) <;> simp[vU,asK]
mutual
theorem MX (u:Nat→Str→Nat→Bool):∀e:Ex,okE u e=(usE e).all (vU u)
 |.mk kind _ _ name kids=>by rw[okE,usE,G6,IS,wH u kids]
theorem wH (u:Nat→Str→Nat→Bool):∀l:List Ex,cZ u l=(ku l).all (vU u)
 |[]=>rfl
 |e::l=>by rw[cZ,ku,G6,MX u e,wH u l]
end
mutual
theorem MY (u:Nat→Str→Nat→Bool):∀e:Stm,okS u e=(usS e).all (vU u)
 |.mk kind name e th el=>by rw[okS,usS,G6,G6,G6,IT,wH u e,pK u th,pK u el]
theorem pK (u:Nat→Str→Nat→Bool):∀l:List Stm,dF u l=(fS l).all (vU u)
 |[]=>rfl
 |e::l=>by rw[dF,fS,G6,MY u e,pK u l]
end
end
section
attribute [local congr] Go.Am.ite_cc
open Go.Asm (Str)
def tu (p:Prog) (i:Nat) (f:Fn) (x:Us):Bool:=
 !(decide (x.2.1=1∧(iZ p f x.1).1≠1∧(iZ p f x.1).1≠2)||decide (x.2.1=3∧(iZ p f x.1).1≠3)||decide (x.2.1=4∧((iZ p f x.1).1≠4∨(i:Int)≤(iZ p f x.1).2)))
def fk (p:Prog) (i:Nat) (f:Fn):Bool:=du (ka f)&&(fS f.body).all (tu p i f)
def qB (p:Prog) (f:Fn) (x:Us):Bool:=if x.2.1=4 then(match p.funcs[(iZ p f x.1).2.toNat]? with|some g=>decide ((g.params.length:Int)=x.2.2)|none=>true) else true
def uI (x:Us):Prop:=(x.2.1=1∨x.2.1=3∨x.2.1=4)∧0≤x.2.2
theorem MJ (kind:Int) (name:Str) (n:Nat):∀x∈us1 kind name n,uI x:=by
 unfold us1
 (repeat' split) <;> simp[uI]
theorem MK (kind:Int) (name:Str) (n:Nat):∀x∈us2 kind name n,uI x:=by
 unfold us2
 (repeat' split) <;> simp[uI]
mutual
theorem ML:∀(e:Ex),∀x∈usE e,uI x
 |.mk kind _ _ name kids=>by rw[usE];exact I1.2 ⟨MJ _ _ _,wv kids⟩
theorem wv:∀(l:List Ex),∀x∈ku l,uI x
 |[]=>fun _ h=>by rw[ku] at h;cases h
 |e::l=>by rw[ku];exact I1.2 ⟨ML e,wv l⟩
end
mutual
theorem MM:∀(e:Stm),∀x∈usS e,uI x
 |.mk kind name e th el=>by rw[usS];exact I1.2 ⟨I1.2 ⟨I1.2 ⟨MK _ _ _,wv e⟩,pD th⟩,pD el⟩
theorem pD:∀(l:List Stm),∀x∈fS l,uI x
 |[]=>fun _ h=>by rw[fS] at h;cases h
 |e::l=>by rw[fS];exact I1.2 ⟨MM e,pD l⟩
end
theorem oI {α:Type}{p q:α→Bool}:∀{l:List α},(∀x∈l,p x=q x)→l.all p=l.all q
 |[],_=>rfl
 |a::l,h=>by rw[D4,D4,h a a7,oI fun x hx=>h x (by simp[hx])]
theorem IB (p:Prog) (i:Nat) (f:Fn) (x:Us) (h:uI x):tu p i f x=vU (fun k n _=>bH (aU (aV p) (aW f)) i k n) x:=by
 unfold tu vU bH
 simp only
 rw[xY]
 generalize aU (aV p) (aW f) x.1=r
 cases r with
 |none=>rcases h.1 with e|e|e <;> simp[e]
 |some y=>
   obtain⟨a,b⟩:=y
   simp only
   have h1:((a:Int)=1↔a=1)∧((a:Int)=2↔a=2)∧((a:Int)=3↔a=3)∧((a:Int)=4↔a=4)∧((i:Int)≤(b:Int)↔¬b<i):=a6
   simp only[ne_eq,h1]
   rcases h.1 with e|e|e <;> rw[e] <;> by_cases a1:a=1 <;> by_cases a2:a=2 <;> by_cases a3:a=3 <;> by_cases a4:a=4 <;> by_cases hb:b<i <;> simp[asK,a1,a2,a3,a4,hb] <;> omega
theorem Da (p:Prog) (i:Nat) (f:Fn):fk p i f=iP p i f:=by
 unfold fk iP
 rw[Ai,pK,oI fun x hx=>IB p i f x (pD _ x hx)]
theorem IC (p:Prog) (i:Nat) (f:Fn) (x:Us) (h:uI x) (hn:tu p i f x=true):qB p f x=vU (fun k n a=>fu (aU (aV p) (aW f)) p.funcs i k n a) x:=by
 unfold tu at hn
 unfold qB vU fu
 simp only
 rw[xY] at hn ⊢
 generalize aU (aV p) (aW f) x.1=r at hn ⊢
 cases r with
 |none=>rcases h.1 with e|e|e <;> simp[e] at hn ⊢
 |some y=>
   simp only at hn ⊢
   rcases h.1 with e|e|e
   ·simp[e,asK]
   ·simp[e,asK]
   ·have h1:y.1=4∧y.2<i:=by
     rw[e] at hn
     simp at hn
     omega
    have h0:=h.2
    rw[if_pos e,if_pos ⟨by rw[e];rfl,h1.1,h1.2⟩]
    simp only[A8]
    cases p.funcs[y.2]? with
    |none=>rfl
    |some g=>simp only;rw[N7,A6,I8];omega
def EZ (p:Prog):Nat:=
 if (du (ez p) && bc (fk p) 0 p.funcs)=false then 4
 else match p.funcs.getLast? with
  |none=>0
  |some f=>if (p.funcs.all fun f=>(fS f.body).all (qB p f))=true∧f.name=LO∧f.params=[]∧f.word=false then 0 else 1
theorem lA {α:Type}{c d:Nat→α→Bool}:∀(l:List α) (i:Nat),(∀k x,l[k]? = some x→c (i+k) x=d (i+k) x)→bc c i l=bc d i l
 |[],_,_=>rfl
 |a::l,i,h=>by
   have ih:=lA (c:=c) (d:=d) l (i+1) fun k x hx=>by
    have:=h (k+1) x (by simpa using hx)
    rwa [show i+(k+1)=i+1+k by omega] at this
   rw[bc,bc,show c i a=d i a from h 0 a rfl,ih]
theorem vp {α:Type}{c:Nat→α→Bool}:∀{l:List α}{i k:Nat}{x:α},bc c i l=true→l[k]? = some x→c (i+k) x=true
 |a::l,i,0,x,h,hx=>by cases hx;rw[bc,l6] at h;exact h.1
 |a::l,i,k+1,x,h,hx=>by
   rw[bc,l6] at h
   rw[show i+(k+1)=i+1+k by omega]
   exact vp h.2 (by simpa using hx)
theorem pE {α:Type}{c:α→Bool}:∀(l:List α) (i:Nat),bc (fun _=>c) i l=l.all c
 |[],_=>rfl
 |a::l,i=>by rw[bc,D4,pE l]
theorem Pg (p:Prog):EZ p=iy p:=by
 unfold EZ iy
 rw[Aj,show bc (iP p) 0 p.funcs=bc (fk p) 0 p.funcs from lA _ _ fun k x _=>(Da p _ x).symm]
 by_cases hb:(du (ez p)&&bc (fk p) 0 p.funcs)=false
 ·rw[if_pos hb,if_pos hb]
 rw[if_neg hb,if_neg hb]
 have hb:bc (fk p) 0 p.funcs=true:=by
  have:(du (ez p)&&bc (fk p) 0 p.funcs)=true:=by simpa using hb
  exact(l6 _ _▸this).2
 have e:(p.funcs.all fun f=>(fS f.body).all (qB p f))=bc (xb p) 0 p.funcs:=by
  rw[←pE _ 0]
  refine lA _ _ fun k x hx=>?_
  unfold xb
  rw[pK]
  have hn:=vp hb hx
  unfold fk at hn
  rw[l6,x7] at hn
  exact oI fun y hy=>IC p (0+k) x y (pD _ y hy) (hn.2 y hy)
 rw[e]
 cases p.funcs.getLast? <;> rfl
end
end Go.Src
namespace Go.Proofs.YtgbcmokfgbmabaaGreatDoorR
section
attribute [local congr] Go.Am.ite_cc
open Go Go.Am Go.Asm
open Go.Src (aJ du ka ez iZ Us fS tu qB fk bc au)
section
structure Sm (p:Src.Prog):Prop where
 v:p.vars.length≤100000
 a:p.arrays.length≤100000
 f:p.funcs.length≤100000
 fs:∀f∈p.funcs,(f.params.length≤100000∧f.locals.length≤100000)∧au f.body≤100000
variable {o:cn}
theorem ID (p:Src.Prog) (hp:Sm p):bI Tryz.prog 3 o 70 [bO p] (· = bv (du (ez p)&&bc (fk p) 0 p.funcs)):=by
 refine hdG Tryz.func70 rfl [.tmp 2] fun b₀ β0 s0 w0 g=>?_
 obtain⟨z,hz⟩:∃z,(du (ez p)&&bc (fk p) 0 p.funcs)=z:=⟨_,rfl⟩
 rw[hz]
 obtain⟨pv,pa,pf,pfs⟩:=hp
 have hG:=vu p a6 a6 a6
 have hF:=fun i fn hi s=>Fq (o:=o) p a6 a6 a6 i fn hi (by have:=(pfs fn (l0 hi)).1.1;omega) (by have:=(pfs fn (l0 hi)).1.2;omega) s
 have hgl:(ez p).length≤300000:=by simp[ez];omega
 rw[cB] at hG hF ⊢
 simp only[go_sem]
 refine gZ rfl (by simp only[go_sem];exact hG) ?_
 rintro _ rfl
 simp only[go_sem]
 refine gZ rfl (by simp only[go_sem];exact xX (ez p) a6) ?_
 rintro _ rfl
 cases hu:du (ez p)
 ·obtain rfl:z=false:=by rw[←hz,hu];rfl
  exact VE
 rw[hu,s7] at hz
 clear hu
 simp only[go_sem]
 refine dq (fun k st=>bc (fk p) k (p.funcs.drop k)=z∧st.f 1=.one (.ptr 1 (st.gen 1) 0)∧st.obj 1=some [.d (.sl (p.vars.map fun s=>[.str s])),.d (.sl (p.arrays.map arD)),.d (.sl (p.funcs.map fnD))]∧st.f 3=iv .i64 k) p.funcs.length ⟨hz,?_⟩ ?_
 ·exact VE
 rintro k f g1 ob1 hk ⟨hc,q1,o1,q3⟩
 simp only at q1 o1 q3
 have hw:=ab (k:=k) a6
 by_cases hlt:k<p.funcs.length
 case neg=>
  have hki:¬(k:Int)<(p.funcs.length:Int):=a6
  rw[x6 a6,bc] at hc
  subst hc
  simp only[go_sem,q1,o1,q3,hki,j4]
 have hki:(k:Int)<(p.funcs.length:Int):=a6
 obtain⟨fn,hs⟩:=getq hlt
 have hg:=getD_at (f:=fnD) hs
 have hfi:fnD fn=[.str fn.name,.sl (fn.params.map fun s=>[.str s]),.sl (fn.locals.map fun s=>[.str s]),.bool fn.word,.sl (fn.body.map smD)]:=rfl
 rw[hfi] at hg
 obtain⟨⟨i1,i2⟩,i3⟩:=pfs fn (l0 hs)
 have hF:=hF k fn hs
 have hN:=Bu (o:=o) fn a6 a6
 have hU:=Fs (o:=o) (au fn.body) fn.body (j8 _) a6
 have hol:(ka fn).length≤200000:=by simp[ka];omega
 have hul:=Src.tG fn.body
 rw[Ah] at hN
 unfold dO at hU
 rw[dr hs,bc] at hc
 unfold fk at hc
 simp only[go_sem,q1,o1,q3,hki,j4,hg]
 refine ck rfl (by simp only[go_sem];exact hN) ?_
 rintro _ rfl
 simp only[go_sem]
 refine gZ rfl (by simp only[go_sem];exact xX (ka fn) a6) ?_
 rintro _ rfl
 cases hu:du (ka fn)
 ·obtain rfl:z=false:=by rw[←hc,hu];rfl
  exact VE
 rw[hu,s7] at hc
 simp only[go_sem,q1,o1,q3,hg]
 refine ck rfl (by simp only[go_sem];exact hU) ?_
 rintro _ rfl
 unfold pH
 obtain⟨us,hus⟩:∃us,fS fn.body=us:=⟨_,rfl⟩
 rw[hus] at hc hul ⊢
 obtain⟨y,hy⟩:∃y,us.all (tu p k fn)=y:=⟨_,rfl⟩
 rw[hy] at hc
 simp only[go_sem]
 refine dq (fun j st=>(us.drop j).all (tu p k fn)=y∧st.f 1=.one (.ptr 1 (st.gen 1) 0)∧st.obj 1=some [.d (.sl (p.vars.map fun s=>[.str s])),.d (.sl (p.arrays.map arD)),.d (.sl (p.funcs.map fnD))]∧st.f 3=iv .i64 k∧st.f 4=.one (.d (.sl (us.map usD)))∧st.f 5=iv .i64 j) us.length ⟨hy,?_⟩ ?_
 ·simp only[go_sem,q1,o1,q3]
 clear q1 o1 q3
 rintro j f g1 ob1 hj ⟨hd,q1,o1,q3,q4,q5⟩
 simp only at q1 o1 q3 q4 q5
 have hwj:=ab (k:=j) a6
 by_cases hlj:j<us.length
 case neg=>
  have hji:¬(j:Int)<(us.length:Int):=a6
  rw[x6 a6] at hd
  obtain rfl:y=true:=hd.symm
  rw[s7] at hc
  simp only[go_sem,q4,q5,hji,j4,q3,hw]
  refine bD hlt ⟨hc,?_⟩
  exact Xp
 have hji:(j:Int)<(us.length:Int):=a6
 obtain⟨x,hx⟩:=getq hlj
 obtain⟨h1,h2⟩:=cA hd hx
 have hgx:=getD_at (f:=usD) hx
 have hxi:usD x=[.str x.1,.int .i64 x.2.1,.int .i64 x.2.2]:=rfl
 rw[hxi] at hgx
 have hbad:tu p k fn x=false→z=false:=fun e=>by rw[←hc,h2 e,y9]
 have hF:=hF x.1
 unfold tu at h1 hbad
 obtain⟨A,hA⟩:∃A,(iZ p fn x.1).1=A:=⟨_,rfl⟩
 obtain⟨n,hn⟩:∃n,(iZ p fn x.1).2=n:=⟨_,rfl⟩
 obtain⟨s,as',of'⟩:=x
 simp only at hA hn hF h1 hbad hgx
 rw[hA,hn] at h1 hbad hF
 simp only[go_sem,q4,q5,hji,j4]
 refine dD aP mixed aN [] [([1],[],[],false),([3],[],[],false),([4],[],[],false),([5],[],[],false),([43,44],[],[],false),([45],[],[],false),([46],[],[],false),([41,42,47],[],[],false),([48],[],[],false),([40],[],[],false),([40],[],[],false),([49],[],[],false),([50],[],[],true)] 0 rfl b9 rfl a8 ?_
 simp only[go_sem]
 iterate 7 (apply ax;(case hg=>first|exact w7|exact⟨_,rfl,by decide,rfl⟩);(case h1=>intro fa ga oa K' hK;simp only[go_sem,q1,o1,q3,q4,q5,hgx] at hK ⊢;exact hK))
 refine ax (v:=.tup [iv .i64 A,iv .i64 n]) w7 (fun fa ga oa K' hK=>?_) ?_
 ·exact Yb
 iterate 4 (apply ax;(case hg=>first|exact w7|exact⟨_,rfl,by decide,rfl⟩);(case h1=>intro fa ga oa K' hK;simp only[go_sem] at hK ⊢;exact hK))
 refine dE w7 ?_
 intro K' hK'
 simp only[go_sem]
 refine hK' _ ?_
 clear hK' K'
 have hcs:(as'=1∧A=1)∨(as'=1∧A=2)∨(as'=3∧A=3)∨(as'=4∧A=4∧¬(k:Int)≤n)∨(¬as'=1∧¬as'=3∧¬as'=4)∨(as'=1∧¬A=1∧¬A=2)∨(as'=3∧¬A=3)∨(as'=4∧¬A=4)∨(as'=4∧A=4∧(k:Int)≤n):=a6
 rcases hcs with h|h|h|h|h|h|h|h|h
 iterate 5
  ·simp only[go_sem,q1,o1,q3,q4,q5,hgx,h,hwj]
   refine bD hlj ⟨h1 (by simp[h]),?_⟩
   simp only[go_sem,q1,o1,q3,q4]
 iterate 4
  ·obtain rfl:=hbad (by simp[h])
   simp only[go_sem,q1,o1,q3,q4,q5,hgx,h]
theorem Ae {α:Type}{l:List α}{a:α} (h:l[l.length-1]? = some a):l.getLast? = some a:=by rw[S8];exact h
theorem Db (p:Src.Prog) (hp:Sm p) (hnm:bc (fk p) 0 p.funcs=true) (last:Src.Fn) (hla:p.funcs[p.funcs.length-1]? = some last) :
  bI Tryz.prog 3 o 71 [bO p] (· = bv (decide ((p.funcs.all fun f=>(fS f.body).all (qB p f))=true∧last.name=Src.LO∧last.params=[]∧last.word=false))):=by
 refine hdG Tryz.func71 rfl [.tmp 2] fun b₀ β0 s0 w0 g=>?_
 obtain⟨z,hz⟩:∃z,decide ((p.funcs.all fun f=>(fS f.body).all (qB p f))=true∧last.name=Src.LO∧last.params=[]∧last.word=false)=z:=⟨_,rfl⟩
 rw[hz]
 obtain⟨pv,pa,pf,pfs⟩:=hp
 have hF:=fun i fn hi s=>Fq (o:=o) p a6 a6 a6 i fn hi (by have:=(pfs fn (l0 hi)).1.1;omega) (by have:=(pfs fn (l0 hi)).1.2;omega) s
 rw[cB] at hF ⊢
 obtain⟨q,hq⟩:∃q,(p.funcs.all fun f=>(fS f.body).all (qB p f))=q:=⟨_,rfl⟩
 rw[hq] at hz
 simp only[go_sem]
 refine dq (fun k st=>((p.funcs.drop k).all fun f=>(fS f.body).all (qB p f))=q∧st.f 1=.one (.ptr 1 (st.gen 1) 0)∧st.obj 1=some [.d (.sl (p.vars.map fun s=>[.str s])),.d (.sl (p.arrays.map arD)),.d (.sl (p.funcs.map fnD))]∧st.f 3=iv .i64 k) p.funcs.length ⟨hq,?_⟩ ?_
 ·exact VE
 rintro k f g1 ob1 hk ⟨hc,q1,o1,q3⟩
 simp only at q1 o1 q3
 have hw:=ab (k:=k) a6
 by_cases hlt:k<p.funcs.length
 case neg=>
  have hki:¬(k:Int)<(p.funcs.length:Int):=a6
  rw[x6 a6] at hc
  rw[show q=true from hc.symm] at hz
  have hpos:0<p.funcs.length:=by have:=(l4.1 hla).1;omega
  have hw1:IntKind.i64.wrap ((p.funcs.length:Int)-1)=((p.funcs.length-1:Nat):Int):=by rw[wrap_i64] <;> omega
  have hg:=getD_at (f:=fnD) hla
  have hfi:fnD last=[.str last.name,.sl (last.params.map fun s=>[.str s]),.sl (last.locals.map fun s=>[.str s]),.bool last.word,.sl (last.body.map smD)]:=rfl
  rw[hfi] at hg
  have hmn:Src.LO=[109,97,105,110]:=rfl
  rw[hmn] at hz
  have hp0:(0:Int)≤((p.funcs.length-1:Nat):Int):=a6
  simp only[go_sem,q1,o1,q3,hki,j4,hw1,hg]
  by_cases e1:last.name=[109,97,105,110]
  case neg=>
   obtain rfl:z=false:=by rw[←hz];simp[e1]
   simp only[go_sem,e1]
  by_cases e2:last.params=[]
  case neg=>
   obtain rfl:z=false:=by rw[←hz];simp[e2]
   have:¬(last.params.length:Int)=0:=fun e=>e2 (u7 a6)
   simp only[go_sem,e1,j4,this]
  cases e3:last.word
  ·obtain rfl:z=true:=by rw[←hz];simp[e1,e2,e3]
   simp only[go_sem,e1,e2]
  ·obtain rfl:z=false:=by rw[←hz];simp[e3]
   simp only[go_sem,e1,e2]
 have hki:(k:Int)<(p.funcs.length:Int):=a6
 obtain⟨fn,hs⟩:=getq hlt
 have hg:=getD_at (f:=fnD) hs
 have hfi:fnD fn=[.str fn.name,.sl (fn.params.map fun s=>[.str s]),.sl (fn.locals.map fun s=>[.str s]),.bool fn.word,.sl (fn.body.map smD)]:=rfl
 rw[hfi] at hg
 obtain⟨⟨i1,i2⟩,i3⟩:=pfs fn (l0 hs)
 have hF:=hF k fn hs
 have hU:=Fs (o:=o) (au fn.body) fn.body (j8 _) a6
 have hul:=Src.tG fn.body
 have hok:=Src.pD fn.body
 have hna:=Src.vp hnm hs
 unfold fk at hna
 rw[l6,x7,C0] at hna
 have hna:=hna.2
 unfold dO at hU
 obtain⟨b1,b2⟩:=cA hc hs
 simp only[go_sem,q1,o1,q3,hki,j4,hg]
 refine ck rfl (by simp only[go_sem];exact hU) ?_
 rintro _ rfl
 unfold pH
 obtain⟨us,hus⟩:∃us,fS fn.body=us:=⟨_,rfl⟩
 rw[hus] at b1 b2 hul hok hna ⊢
 obtain⟨y,hy⟩:∃y,us.all (qB p fn)=y:=⟨_,rfl⟩
 rw[hy] at b1 b2
 simp only[go_sem]
 refine dq (fun j st=>(us.drop j).all (qB p fn)=y∧st.f 1=.one (.ptr 1 (st.gen 1) 0)∧st.obj 1=some [.d (.sl (p.vars.map fun s=>[.str s])),.d (.sl (p.arrays.map arD)),.d (.sl (p.funcs.map fnD))]∧st.f 3=iv .i64 k∧st.f 4=.one (.d (.sl (us.map usD)))∧st.f 5=iv .i64 j) us.length ⟨hy,?_⟩ ?_
 ·simp only[go_sem,q1,o1,q3]
 clear q1 o1 q3
 rintro j f g1 ob1 hj ⟨hd,q1,o1,q3,q4,q5⟩
 simp only at q1 o1 q3 q4 q5
 have hwj:=ab (k:=j) a6
 by_cases hlj:j<us.length
 case neg=>
  have hji:¬(j:Int)<(us.length:Int):=a6
  rw[x6 a6] at hd
  simp only[go_sem,q4,q5,hji,j4,q3,hw]
  refine bD hlt ⟨b1 hd.symm,?_⟩
  exact Xp
 have hji:(j:Int)<(us.length:Int):=a6
 obtain⟨x,hx⟩:=getq hlj
 obtain⟨h1,h2⟩:=cA hd hx
 have hgx:=getD_at (f:=usD) hx
 have hxm:=l0 hx
 have hxo:=hok x hxm
 have hxn:=hna x hxm
 have hxi:usD x=[.str x.1,.int .i64 x.2.1,.int .i64 x.2.2]:=rfl
 rw[hxi] at hgx
 have hF:=hF x.1
 unfold qB at h1 h2
 unfold tu at hxn
 by_cases e4:x.2.1=4
 case neg=>
  rw[if_neg e4] at h1
  simp only[go_sem,q1,o1,q3,q4,q5,hji,j4,hgx,e4,hwj]
  refine bD hlj ⟨h1 rfl,?_⟩
  simp only[go_sem,q1,o1,q3,q4]
 rw[if_pos e4] at h1 h2
 obtain⟨A,hA⟩:∃A,(iZ p fn x.1).1=A:=⟨_,rfl⟩
 obtain⟨n,hn⟩:∃n,(iZ p fn x.1).2=n:=⟨_,rfl⟩
 have hfe:=Src.xY p fn x.1
 have hn0:0≤n∧n<p.funcs.length:=by
  rw[hA,hn,e4] at hxn
  simp at hxn
  refine⟨?_,a6⟩
  rw[←hn,hfe]
  cases hr:Src.aU (Src.aV p) (Src.aW fn) x.1 with
  |none=>
    rw[hfe,hr] at hA
    simp only at hA
    omega
  |some r=>simp
 rw[hn] at h1 h2
 rw[hA,hn] at hF
 obtain⟨m,rfl⟩:∃m:Nat,n=(m:Int):=⟨n.toNat,a6⟩
 rw[A8] at h1 h2
 obtain⟨fm,hfm⟩:=getq (l:=p.funcs) (k:=m) a6
 rw[hfm] at h1 h2
 simp only at h1 h2
 have hgm:=getD_at (f:=fnD) hfm
 have hfi:fnD fm=[.str fm.name,.sl (fm.params.map fun s=>[.str s]),.sl (fm.locals.map fun s=>[.str s]),.bool fm.word,.sl (fm.body.map smD)]:=rfl
 rw[hfi] at hgm
 simp only[go_sem,q1,o1,q3,q4,q5,hji,j4,hgx,e4]
 refine dD aP mixed aN [] [([1],[],[],false),([3],[],[],false),([4],[],[],false),([5],[],[],false),([38,39],[],[],false),([40],[],[],false),([41],[],[],false),([36,37,42],[],[],false),([43],[],[],false),([35],[],[],false),([35],[],[],false),([44],[],[],false),([45],[],[],true)] 0 rfl b9 rfl a8 ?_
 simp only[go_sem]
 iterate 7 (apply ax;(case hg=>first|exact w7|exact⟨_,rfl,by decide,rfl⟩);(case h1=>intro fa ga oa K' hK;simp only[go_sem,q1,o1,q3,q4,q5,hgx] at hK ⊢;exact hK))
 refine ax (v:=.tup [iv .i64 A,iv .i64 m]) w7 (fun fa ga oa K' hK=>?_) ?_
 ·exact Yb
 iterate 4 (apply ax;(case hg=>first|exact w7|exact⟨_,rfl,by decide,rfl⟩);(case h1=>intro fa ga oa K' hK;simp only[go_sem] at hK ⊢;exact hK))
 refine dE w7 ?_
 intro K' hK'
 simp only[go_sem]
 refine hK' _ ?_
 clear hK' K'
 simp only[go_sem]
 refine aL b9 ?_
 have hm0:(0:Int)≤(m:Int):=a6
 by_cases e5:(fm.params.length:Int)=x.2.2
 ·simp only[go_sem,q1,o1,q3,q4,q5,hgx,hgm,hm0,j4,e5,hwj]
  refine bD hlj ⟨h1 (A7 e5),?_⟩
  simp only[go_sem,q1,o1,q3,q4]
 ·have hy0:y=false:=h2 (y7 e5)
  rw[b2 hy0] at hz
  obtain rfl:z=false:=by rw[←hz];simp
  simp only[go_sem,q1,o1,q3,q4,q5,hgx,hgm,hm0,j4,e5]
theorem Fa (p:Src.Prog) (hp:Sm p) (h1:1≤p.funcs.length):bI Tryz.prog 3 o 34 [bO p] (· = iv .i64 (Src.iy p:Nat)):=by
 refine hdG Tryz.func34 rfl [.tmp 2] fun b₀ β0 s0 w0 g=>?_
 rw[←Src.Pg]
 have hN:=ID (o:=o) p hp
 obtain⟨last,hla⟩:=getq (l:=p.funcs) (k:=p.funcs.length-1) a6
 have hM:=fun h=>Db (o:=o) p hp h last hla
 obtain⟨z,hz⟩:∃z,Src.EZ p=z:=⟨_,rfl⟩
 rw[hz]
 unfold Src.EZ at hz
 rw[Ae hla] at hz
 rw[cB] at hN hM ⊢
 simp only[go_sem]
 refine ck rfl (by simp only[go_sem];exact hN) ?_
 rintro _ rfl
 by_cases hb:(du (ez p)&&bc (fk p) 0 p.funcs)=false
 ·rw[if_pos hb] at hz
  subst hz
  simp only[go_sem,hb]
 rw[if_neg hb] at hz
 have hb:(du (ez p)&&bc (fk p) 0 p.funcs)=true:=by simpa using hb
 have hM:=hM (l6 _ _▸hb).2
 simp only[go_sem,hb]
 refine ck rfl (by simp only[go_sem];exact hM) ?_
 rintro _ rfl
 by_cases h:(p.funcs.all fun f=>(fS f.body).all (qB p f))=true∧last.name=Src.LO∧last.params=[]∧last.word=false
 ·simp only[if_pos h] at hz
  subst hz
  simp only[go_sem,A7 h]
 ·simp only[if_neg h] at hz
  subst hz
  simp only[go_sem,y7 h]
end
end
end Go.Proofs.YtgbcmokfgbmabaaGreatDoorR
namespace Go.Src
section
attribute [local congr] Go.Am.ite_cc
open Go.Asm (Str)
section
theorem lB:∀(fs:List Fn) (k:Nat) (s:Str),bR fs s=if aJ k (fs.map (·.name)) s<0 then none else fs[(aJ k (fs.map (·.name)) s).toNat-k]?
 |[],_,_=>rfl
 |f::l,k,s=>by
   rw[bR,l5,aJ]
   by_cases h:f.name=s
   ·rw[if_pos h,if_pos h,if_neg a6,show ((k:Int).toNat-k)=0 by omega];rfl
   ·rw[if_neg h,if_neg h,lB l (k+1)]
    have:=gO (l.map (·.name)) (k+1) s
    split
    ·rfl
    ·rename_i hh
     rw[show (aJ (k+1) (l.map (·.name)) s).toNat-k=((aJ (k+1) (l.map (·.name)) s).toNat-(k+1))+1 by omega,s6]
def pF (fs:List Fn) (s:Str):Int:=aJ 0 (fs.map (·.name)) s
variable {fs:List Fn}
theorem Ph{s:Str} (h:pF fs s<0):bR fs s=none:=(lB fs 0 s).trans (if_pos h)
theorem Pi{s:Str} (h:¬pF fs s<0):∃(k:Nat) (f:Fn),pF fs s=(k:Int)∧fs[k]? = some f∧bR fs s=some f:=by
 have hg:=gO (fs.map (·.name)) 0 s
 rw[j4] at hg
 unfold pF at h ⊢
 obtain⟨k,hk⟩:∃k:Nat,aJ 0 (fs.map (·.name)) s=(k:Int):=⟨(aJ 0 (fs.map (·.name)) s).toNat,a6⟩
 have hlt:k<fs.length:=a6
 refine⟨k,fs[k],hk,w9 hlt,?_⟩
 rw[lB fs 0,if_neg h,hk]
 simp[hlt]
end
end
end Go.Src
namespace Go.Proofs.YtgbcmokfgbmabaaGreatDoorR
section
attribute [local congr] Go.Am.ite_cc
open Go Go.Am Go.Asm
open Go.Src (Ex Stm szE aG szS au pF bR fW fv bS ky bF fH cl jW bg)
section
theorem lC (p:Src.Prog) (hf:p.funcs.length≤1000000) (s:Str):aq Tryz.prog 110 [bO p,sv s] (· = iv .i64 (pF p.funcs s)):=by
 refine hdP Tryz.func110 rfl [4] fun g=>?_
 unfold pF
 obtain⟨z,hz⟩:∃z,Src.aJ 0 (p.funcs.map (·.name)) s=z:=⟨_,rfl⟩
 rw[hz,cB]
 simp only[go_sem]
 refine dq (fun k st=>Src.aJ k ((p.funcs.drop k).map (·.name)) s=z∧st.f 2=.one (.ptr 2 (st.gen 2) 0)∧st.obj 2=some [.d (.sl (p.vars.map fun s=>[.str s])),.d (.sl (p.arrays.map arD)),.d (.sl (p.funcs.map fnD))]∧st.f 1=sv s∧st.f 5=iv .i64 k) p.funcs.length ⟨hz,?_⟩ ?_
 ·exact VE
 rintro k f g1 ob1 hk ⟨hc,q2,o2,q1,q5⟩
 simp only at q2 o2 q1 q5
 have hw:=ab (k:=k) a6
 by_cases hlt:k<p.funcs.length
 case neg=>
  have hki:¬(k:Int)<(p.funcs.length:Int):=a6
  rw[x6 a6] at hc
  have hz:z = -1:=hc.symm
  simp only[go_sem,q2,o2,q5,hki,j4,hz]
 have hki:(k:Int)<(p.funcs.length:Int):=a6
 obtain⟨fn,hs⟩:=getq hlt
 have hg:=getD_at (f:=fnD) hs
 have hfi:fnD fn=[.str fn.name,.sl (fn.params.map fun s=>[.str s]),.sl (fn.locals.map fun s=>[.str s]),.bool fn.word,.sl (fn.body.map smD)]:=rfl
 rw[hfi] at hg
 rw[dr hs,l5,Src.aJ] at hc
 by_cases hn:fn.name=s
 ·rw[if_pos hn] at hc
  subst hc
  simp only[go_sem,q2,o2,q1,q5,hki,j4,hg,hn]
 ·rw[if_neg hn] at hc
  simp only[go_sem,q2,o2,q1,q5,hki,j4,hg,hn,hw]
  refine bD hlt ⟨hc,?_⟩
  simp only[go_sem,q2,o2,q1]
section
variable {s:St}{p:Src.Prog}
theorem ww {x:Str}:da s [.agg [.d (.sl (p.vars.map fun s=>[.str s])),.d (.sl (p.arrays.map arD)),.d (.sl (p.funcs.map fnD))],sv x] [bO p,sv x]:=⟨_,_,rfl,pN (iq p),_,_,rfl,⟨_,.d _,rfl⟩,rfl⟩
theorem wx {x:List (List D)}:da s [.agg [.d (.sl (p.vars.map fun s=>[.str s])),.d (.sl (p.arrays.map arD)),.d (.sl (p.funcs.map fnD))],.one (.d (.sl x))] [bO p,.one (.d (.sl x))]:=⟨_,_,rfl,pN (iq p),_,_,rfl,⟨_,.d _,rfl⟩,rfl⟩
end
theorem rx {fs:List Src.Fn}:∀l:List Ex,bS fs l=l.all (fv fs)
 |[]=>by simp[bS]
 |e::l=>by simp[bS,rx l]
theorem mN {fs:List Src.Fn}:∀l:List Stm,bF fs l=l.all (ky fs)
 |[]=>by simp[bF]
 |e::l=>by simp[bF,mN l]
theorem xR {fs:List Src.Fn}{t:Int}:∀l:List Ex,cl fs t l=l.all fun e=>decide (fH fs e=t)
 |[]=>by simp[cl]
 |e::l=>by simp[cl,xR l]
theorem ry {fs:List Src.Fn}{w:Bool}:∀l:List Stm,bg fs w l=l.all (jW fs w)
 |[]=>by simp[bg]
 |e::l=>by simp[bg,ry l]
theorem IE (p:Src.Prog) (hf:p.funcs.length≤1000000):∀(N:Nat) (l:List Ex),aG l≤N→N≤1000000000→aq Tryz.prog 111 [bO p,dj l] (· = bv (bS p.funcs l)):=by
 intro N
 induction N using Nat.strongRecOn with
 |ind N ih=>
 intro l hN hNb
 refine hdP Tryz.func111 rfl [4] fun g=>?_
 obtain⟨z,hz⟩:∃z,bS p.funcs l=z:=⟨_,rfl⟩
 rw[hz,cB]
 rw[rx] at hz
 have hll:=Src.Hl l
 unfold dj
 simp only[go_sem]
 refine dq (fun k st=>(l.drop k).all (fv p.funcs)=z∧st.f 2=.one (.ptr 2 (st.gen 2) 0)∧st.obj 2=some [.d (.sl (p.vars.map fun s=>[.str s])),.d (.sl (p.arrays.map arD)),.d (.sl (p.funcs.map fnD))]∧st.f 1=.one (.d (.sl (l.map exD)))∧st.f 5=iv .i64 k) l.length ⟨hz,?_⟩ ?_
 ·exact VE
 rintro k f g1 ob1 hk ⟨hc,q2,o2,q1,q5⟩
 simp only at q2 o2 q1 q5
 have hw:=ab (k:=k) a6
 by_cases hlt:k<l.length
 case neg=>
  exact WM
 have hki:(k:Int)<(l.length:Int):=a6
 obtain⟨e,he⟩:=getq hlt
 obtain⟨h1,h2⟩:=cA hc he
 have hsz:=Src.Kv (l0 he)
 have hg:=getD_at (f:=exD) he
 obtain⟨kind,op,num,name,kids⟩:=e
 rw[szE] at hsz
 rw[fv] at h1 h2
 have hx:exD (.mk kind op num name kids)=[.int .i64 kind,.int .i64 op,.int .u32 num,.str name,.sl (kids.map exD)]:=by simp only[exD,aw]
 rw[hx] at hg
 have hK:=ih (aG kids) a6 kids (j8 _) a6
 unfold dj at hK
 simp only[go_sem,q1,q5,hki,j4]
 refine df aP mixed b9 ?_
 by_cases k4:kind=4
 case' pos=>
  rw[if_pos k4] at h1 h2
  simp only[go_sem,q1,q2,o2,q5,hg,hki,k4]
  refine ba rfl (lC p hf name) (by simp only[go_sem];exact ww) rfl ?_
  by_cases hn:pF p.funcs name<0
  ·obtain rfl:=h2 (by rw[Src.Ph hn];rfl)
   simp only[go_sem,hn]
  obtain⟨_,_,_,_,hs⟩:=Src.Pi hn
  rw[hs,B1,s7] at h1 h2
  simp only[go_sem,q1,q2,o2,q5,hg,hki,hn]
 case' neg=>
  rw[if_neg k4,s7] at h1 h2
  simp only[go_sem,q1,q2,o2,q5,hg,hki,k4]
 all_goals refine ba rfl hK (by simp only[go_sem];exact wx) rfl ?_
 all_goals cases hkn:bS p.funcs kids
 all_goals simp only[go_sem,hkn,q5,hw]
 any_goals exact(h2 hkn).symm
 all_goals refine bD hlt ⟨h1 hkn,?_⟩
 all_goals simp only[go_sem,q2,o2,q1]
theorem wy (p:Src.Prog) (hf:p.funcs.length≤1000000):∀(N:Nat) (l:List Stm),au l≤N→N≤1000000000→aq Tryz.prog 72 [bO p,dO l] (· = bv (bF p.funcs l)):=by
 intro N
 induction N using Nat.strongRecOn with
 |ind N ih=>
 intro l hN hNb
 refine hdP Tryz.func72 rfl [4] fun g=>?_
 obtain⟨z,hz⟩:∃z,bF p.funcs l=z:=⟨_,rfl⟩
 rw[hz,cB]
 rw[mN] at hz
 have hll:=Src.Hm l
 unfold dO
 simp only[go_sem]
 refine dq (fun k st=>(l.drop k).all (ky p.funcs)=z∧st.f 2=.one (.ptr 2 (st.gen 2) 0)∧st.obj 2=some [.d (.sl (p.vars.map fun s=>[.str s])),.d (.sl (p.arrays.map arD)),.d (.sl (p.funcs.map fnD))]∧st.f 1=.one (.d (.sl (l.map smD)))∧st.f 5=iv .i64 k) l.length ⟨hz,?_⟩ ?_
 ·exact VE
 rintro k f g1 ob1 hk ⟨hc,q2,o2,q1,q5⟩
 simp only at q2 o2 q1 q5
 have hw:=ab (k:=k) a6
 by_cases hlt:k<l.length
 case neg=>
  exact WM
 have hki:(k:Int)<(l.length:Int):=a6
 obtain⟨e,he⟩:=getq hlt
 obtain⟨h1,h2⟩:=cA hc he
 have hsz:=Src.Kw (l0 he)
 have hg:=getD_at (f:=smD) he
 obtain⟨kind,name,e,th,el⟩:=e
 rw[szS] at hsz
 rw[ky] at h1 h2
 have hx:smD (.mk kind name e th el)=[.int .i64 kind,.str name,.sl (e.map exD),.sl (th.map smD),.sl (el.map smD)]:=by simp only[smD,aw,cK]
 rw[hx] at hg
 have hE:=IE p hf (aG e) e (j8 _) a6
 have hT:=ih (au th) a6 th (j8 _) a6
 have hL:=ih (au el) a6 el (j8 _) a6
 unfold dj at hE
 unfold dO at hT hL
 simp only[go_sem,q1,q5,hki,j4]
 refine df aP mixed b9 ?_
 by_cases k4:kind=6
 case' pos=>
  rw[if_pos k4] at h1 h2
  simp only[go_sem,q1,q2,o2,q5,hg,hki,k4]
  refine ba rfl (lC p hf name) (by simp only[go_sem];exact ww) rfl ?_
  by_cases hn:pF p.funcs name<0
  ·obtain rfl:=h2 (by rw[Src.Ph hn];rfl)
   simp only[go_sem,hn]
  obtain⟨_,_,_,_,hs⟩:=Src.Pi hn
  rw[hs,B1,s7] at h1 h2
  simp only[go_sem,q1,q2,o2,q5,hg,hki,hn]
 case' neg=>
  rw[if_neg k4,s7] at h1 h2
  simp only[go_sem,q1,q2,o2,q5,hg,hki,k4]
 all_goals refine ba rfl hE (by simp only[go_sem];exact wx) rfl ?_
 all_goals cases hkn:bS p.funcs e
 all_goals simp only[go_sem,hkn,q1,q2,o2,q5,hg,hki]
 any_goals exact(h2 (by rw[hkn];rfl)).symm
 all_goals refine ba rfl hT (by simp only[go_sem];exact wx) rfl ?_
 all_goals cases htn:bF p.funcs th
 all_goals simp only[go_sem,htn,q1,q2,o2,q5,hg,hki]
 any_goals exact(h2 (by rw[hkn,htn];rfl)).symm
 all_goals refine ba rfl hL (by simp only[go_sem];exact wx) rfl ?_
 all_goals cases hln:bF p.funcs el
 all_goals simp only[go_sem,hln,q5,hw]
 any_goals exact(h2 (by rw[hkn,htn,hln];rfl)).symm
 all_goals refine bD hlt ⟨h1 (by rw[hkn,htn,hln];rfl),?_⟩
 all_goals simp only[go_sem,q2,o2,q1]
end
section
variable {fs:List Src.Fn}
theorem Fb{s:Str} (h:pF fs s<0):fW fs s=false:=by unfold fW;rw[Src.Ph h]
theorem MN (p:Src.Prog) (hf:p.funcs.length≤1000000) (kind op num:Int) (name:Str) (kids:List Ex) (hW:aq Tryz.prog 113 [bO p,dj kids] (· = bv (cl p.funcs 1 kids))) (hB:aq Tryz.prog 112 [bO p,dj kids] (· = bv (cl p.funcs 2 kids))) :
  aq Tryz.prog 184 [bO p,exV (.mk kind op num name kids)] (· = iv .i64 (fH p.funcs (.mk kind op num name kids))):=by
 refine hdP Tryz.func184 rfl [4] fun g=>?_
 have hE:exV (.mk kind op num name kids)=.agg [.d (.int .i64 kind),.d (.int .i64 op),.d (.int .u32 num),.d (.str name),.d (.sl (kids.map exD))]:=by simp only[exV,exD,aw,l5,v8]
 have hN:=lC p hf name
 obtain⟨z,hz⟩:∃z,fH p.funcs (.mk kind op num name kids)=z:=⟨_,rfl⟩
 rw[hz,hE]
 rw[fH] at hz
 unfold dj at hW hB
 rw[cB] at hW hB hN ⊢
 have hk:kind=1∨kind=2∨kind=5∨kind=3∨kind=4∨kind=6∨kind=7∨kind=8∨kind=9∨(¬kind=1∧¬kind=2∧¬kind=3∧¬kind=4∧¬kind=5∧¬kind=6∧¬kind=7∧¬kind=8∧¬kind=9):=a6
 rcases hk with rfl|rfl|rfl|rfl|rfl|rfl|rfl|rfl|rfl|⟨k1,k2,k3,k4,k5,k6,k7,k8,k9⟩
 iterate 3
  ·obtain rfl:z=1:=by rw[←hz];simp
   simp only[go_sem]
 ·simp only[go_sem]
  refine bG rfl (by simp only[go_sem];exact hW) ?_
  rintro _ rfl
  cases hw:cl p.funcs 1 kids
  ·exact Xr
  ·obtain rfl:z=1:=by rw[←hz,hw];simp
   exact VE
 ·simp only[go_sem]
  refine bG rfl (by simp only[go_sem];exact hN) ?_
  rintro _ rfl
  by_cases hn:pF p.funcs name<0
  ·obtain rfl:z=0:=by rw[←hz,Fb hn];simp
   simp only[go_sem,show ¬0≤pF p.funcs name by omega]
  obtain⟨k,fn,hk,hfn,hs⟩:=Src.Pi hn
  have hg:=getD_at (f:=fnD) hfn
  have hfi:fnD fn=[.str fn.name,.sl (fn.params.map fun s=>[.str s]),.sl (fn.locals.map fun s=>[.str s]),.bool fn.word,.sl (fn.body.map smD)]:=rfl
  rw[hfi] at hg
  have hwf:fW p.funcs name=fn.word:=by unfold fW;rw[hs]
  rw[hwf] at hz
  have hk0:(0:Int)≤(k:Int):=a6
  cases hfw:fn.word
  ·obtain rfl:z=0:=by rw[←hz,hfw];simp
   simp only[go_sem,hk,hk0,hg,hfw]
  simp only[go_sem,hk,hk0,hg,hfw]
  refine bG rfl (by simp only[go_sem];exact hW) ?_
  rintro _ rfl
  cases hw:cl p.funcs 1 kids
  ·exact Xr
  ·obtain rfl:z=1:=by rw[←hz,hw,hfw];simp
   exact VE
 ·simp only[go_sem]
  refine bG rfl (by simp only[go_sem];exact hW) ?_
  rintro _ rfl
  cases hw:cl p.funcs 1 kids
  ·exact Xr
  by_cases h14:op=14
  ·obtain rfl:z=2:=by rw[←hz,hw,h14];simp
   simp only[go_sem,h14]
  by_cases h15:op=15
  ·obtain rfl:z=2:=by rw[←hz,hw,h15];simp
   simp only[go_sem,h15]
  obtain rfl:z=1:=by rw[←hz,hw];simp[h14,h15]
  simp only[go_sem,h14,h15]
 iterate 3
  ·simp only[go_sem]
   refine bG rfl (by simp only[go_sem];exact hB) ?_
   rintro _ rfl
   cases hw:cl p.funcs 2 kids
   ·exact Xr
   ·obtain rfl:z=2:=by rw[←hz,hw];simp
    exact VE
 ·obtain rfl:z=0:=by rw[←hz,if_pos a6]
  simp only[go_sem,k1,k2,k3,k4,k5,k6,k7,k8,k9]
theorem IF (p:Src.Prog) (hf:p.funcs.length≤1000000):∀(N:Nat) (l:List Ex),aG l≤N→N≤1000000000→aq Tryz.prog 113 [bO p,dj l] (· = bv (cl p.funcs 1 l))∧aq Tryz.prog 112 [bO p,dj l] (· = bv (cl p.funcs 2 l)):=by
 intro N
 induction N using Nat.strongRecOn with
 |ind N ih=>
 intro l hN hNb
 have hll:=Src.Hl l
 have hT:∀(k:Nat) (e:Ex),l[k]? = some e→aq Tryz.prog 184 [bO p,exV e] (· = iv .i64 (fH p.funcs e)):=fun k e he=>by
  have hsz:=Src.Kv (l0 he)
  obtain⟨kind,op,num,name,kids⟩:=e
  rw[szE] at hsz
  have:=ih (aG kids) a6 kids (j8 _) a6
  exact MN p hf kind op num name kids this.1 this.2
 unfold dj
 rw[cB] at hT ⊢
 constructor
 case' left=>
  refine hdP Tryz.func113 rfl [4] fun g=>?_
  obtain⟨t,ht⟩:∃t:Int,t=1:=⟨_,rfl⟩
  rw[show cl p.funcs 1 l=cl p.funcs t l by rw[ht]]
 case' right=>
  refine hdP Tryz.func112 rfl [4] fun g=>?_
  obtain⟨t,ht⟩:∃t:Int,t=2:=⟨_,rfl⟩
  rw[show cl p.funcs 2 l=cl p.funcs t l by rw[ht]]
 all_goals obtain⟨z,hz⟩:∃z,cl p.funcs t l=z:=⟨_,rfl⟩
 all_goals rw[hz]
 all_goals rw[xR] at hz
 all_goals simp only[go_sem]
 all_goals refine dq (fun k st=>((l.drop k).all fun e=>decide (fH p.funcs e=t))=z∧st.f 2=.one (.ptr 2 (st.gen 2) 0)∧st.obj 2=some [.d (.sl (p.vars.map fun s=>[.str s])),.d (.sl (p.arrays.map arD)),.d (.sl (p.funcs.map fnD))]∧st.f 1=.one (.d (.sl (l.map exD)))∧st.f 5=iv .i64 k) l.length ⟨hz,(by simp only[go_sem])⟩ ?_
 all_goals rintro k f g1 ob1 hk ⟨hc,q2,o2,q1,q5⟩
 all_goals simp only at q2 o2 q1 q5
 all_goals have hw:=ab (k:=k) a6
 all_goals
  by_cases hlt:k<l.length
  rotate_left
  ·exact WM
  have hki:(k:Int)<(l.length:Int):=a6
  obtain⟨e,he⟩:=getq hlt
  obtain⟨h1,h2⟩:=cA hc he
  have hg:=getD_at (f:=exD) he
  have hTe:=hT k e he
  have hel:∃a b c d x,exD e=[.int .i64 a,.int .i64 b,.int .u32 c,.str d,.sl x]:=by cases e;exact⟨_,_,_,_,_,by rw[exD]⟩
  obtain⟨a,b,c,d,x,hel⟩:=hel
  unfold exV at hTe
  rw[hel] at hTe hg
  simp only[go_sem,q1,q5,hki,j4]
  refine jF b9 ?_
  simp only[go_sem,q1,q2,o2,q5,hki,hg]
  refine bG rfl (by simp only[go_sem];exact hTe) ?_
  rintro _ rfl
  by_cases hty:fH p.funcs e=t
  ·rw[ht] at hty
   simp only[go_sem,hty,q5,hw]
   refine bD hlt ⟨h1 (A7 (by rw[hty,ht])),?_⟩
   simp only[go_sem,q2,o2,q1]
  ·obtain rfl:=h2 (y7 hty)
   rw[ht] at hty
   simp only[go_sem,hty]
theorem QJ {kind:Int}{e:List Ex}:cl fs (if kind=4∨kind=5 then 2 else 1) e=if kind=4∨kind=5 then cl fs 2 e else cl fs 1 e:=by split <;> rfl
theorem MO (p:Src.Prog) (hf:p.funcs.length≤1000000) (w:Bool):∀(N:Nat) (l:List Stm),au l≤N→N≤1000000000→bF p.funcs l=true→aq Tryz.prog 73 [bO p,bv w,dO l] (· = bv (bg p.funcs w l)):=by
 intro N
 induction N using Nat.strongRecOn with
 |ind N ih=>
 intro l hN hNb hkn
 refine hdP Tryz.func73 rfl [6] fun g=>?_
 obtain⟨z,hz⟩:∃z,bg p.funcs w l=z:=⟨_,rfl⟩
 rw[hz,cB]
 rw[ry] at hz
 rw[mN,x7] at hkn
 have hll:=Src.Hm l
 unfold dO
 simp only[go_sem]
 refine dq (fun k st=>(l.drop k).all (jW p.funcs w)=z∧st.f 3=.one (.ptr 3 (st.gen 3) 0)∧st.obj 3=some [.d (.sl (p.vars.map fun s=>[.str s])),.d (.sl (p.arrays.map arD)),.d (.sl (p.funcs.map fnD))]∧st.f 1=bv w∧st.f 2=.one (.d (.sl (l.map smD)))∧st.f 7=iv .i64 k) l.length ⟨hz,?_⟩ ?_
 ·exact VE
 rintro k f g1 ob1 hk ⟨hc,q3,o3,q1,q2,q7⟩
 simp only at q3 o3 q1 q2 q7
 have hw:=ab (k:=k) a6
 by_cases hlt:k<l.length
 case neg=>
  have hki:¬(k:Int)<(l.length:Int):=a6
  rw[x6 a6] at hc
  obtain rfl:z=true:=hc.symm
  simp only[go_sem,q2,q7,hki,j4]
 have hki:(k:Int)<(l.length:Int):=a6
 obtain⟨e,he⟩:=getq hlt
 obtain⟨h1,h2⟩:=cA hc he
 have hsz:=Src.Kw (l0 he)
 have hkn:=hkn e (l0 he)
 have hg:=getD_at (f:=smD) he
 obtain⟨kind,name,e,th,el⟩:=e
 rw[szS] at hsz
 rw[ky] at hkn
 simp only[l6] at hkn
 rw[jW,QJ] at h1 h2
 have hx:smD (.mk kind name e th el)=[.int .i64 kind,.str name,.sl (e.map exD),.sl (th.map smD),.sl (el.map smD)]:=by simp only[smD,aw,cK]
 rw[hx] at hg
 obtain⟨hW,hB⟩:=IF p hf (aG e) e (j8 _) a6
 have hT:=ih (au th) a6 th (j8 _) a6 hkn.2.1
 have hL:=ih (au el) a6 el (j8 _) a6 hkn.2.2
 have hN:=lC p hf name
 rw[cB] at hW hB hT hL
 unfold dj at hW hB
 unfold dO at hT hL
 obtain⟨y,hy⟩:∃y,(if kind=4∨kind=5 then cl p.funcs 2 e else cl p.funcs 1 e)=y:=⟨_,rfl⟩
 rw[hy] at h1 h2
 have hy0:y=false→z=false:=fun e=>h2 (by rw[e];simp)
 by_cases k4:kind=4
 case' pos=>
  rw[if_pos (.inl k4)] at hy
  simp only[go_sem,q2,q3,o3,q7,hki,j4,hg,k4]
  refine bG rfl (by simp only[go_sem];exact hB) ?_
  rintro _ rfl
  rw[hy]
  have k6:¬kind=6:=a6
 case' neg=>
  by_cases k5:kind=5
  case' pos=>
   rw[if_pos (.inr k5)] at hy
   simp only[go_sem,q2,q3,o3,q7,hki,j4,hg,k5]
   refine bG rfl (by simp only[go_sem];exact hB) ?_
   rintro _ rfl
   rw[hy]
   have k6:¬kind=6:=a6
  case' neg=>
   rw[if_neg a6] at hy
   simp only[go_sem,q2,q3,o3,q7,hki,j4,hg,k4,k5]
   refine bG rfl (by simp only[go_sem];exact hW) ?_
   rintro _ rfl
   rw[hy]
   by_cases k6:kind=6
   case pos=>
    cases y
    ·obtain rfl:=hy0 rfl
     exact VE
    simp only[go_sem]
    refine df aP mixed b9 ?_
    have hfs:(bR p.funcs name).isSome=true:=by have:=hkn.1.1;rwa [if_pos k6] at this
    have hn:¬pF p.funcs name<0:=fun h=>by rw[Src.Ph h] at hfs;cases hfs
    obtain⟨m,fn,hm,hfn,hs⟩:=Src.Pi hn
    have hgf:=getD_at (f:=fnD) hfn
    have hfi:fnD fn=[.str fn.name,.sl (fn.params.map fun s=>[.str s]),.sl (fn.locals.map fun s=>[.str s]),.bool fn.word,.sl (fn.body.map smD)]:=rfl
    rw[hfi] at hgf
    have hwf:fW p.funcs name=fn.word:=by unfold fW;rw[hs]
    have hm0:(0:Int)≤(m:Int):=a6
    rw[hwf] at h1 h2
    cases hwd:fn.word
    case true=>
     obtain rfl:=h2 (by simp[hwd,k6])
     simp only[go_sem,k6,q3,o3]
     refine ba rfl hN (by simp only[go_sem];exact ww) rfl ?_
     simp only[go_sem,hm,hm0,hgf,hwd]
    simp only[go_sem,k6,q3,o3]
    refine ba rfl hN (by simp only[go_sem];exact ww) rfl ?_
    simp only[go_sem,hm,hm0,hgf,hwd,k6,q1,q3,o3]
    refine bG rfl (by simp only[go_sem];exact hT) ?_
    rintro _ rfl
    cases ht:bg p.funcs w th
    ·obtain rfl:=h2 (by simp[ht])
     exact VE
    simp only[go_sem,q1,q3,o3]
    refine bG rfl (by simp only[go_sem];exact hL) ?_
    rintro _ rfl
    cases hl:bg p.funcs w el
    ·obtain rfl:=h2 (by simp[hl])
     exact VE
    simp only[go_sem,q7,hw]
    refine bD hlt ⟨h1 (by simp[ht,hl,hwd,k6]),?_⟩
    simp only[go_sem,q3,o3,q1,q2]
 all_goals
  cases y
  ·obtain rfl:=hy0 rfl
   exact VE
  simp only[go_sem]
  refine df aP mixed b9 ?_
  by_cases k7:kind=7
  rotate_left
  ·simp only[go_sem,k6,k7,q1,q3,o3]
   refine bG rfl (by simp only[go_sem];exact hT) ?_
   rintro _ rfl
   cases ht:bg p.funcs w th
   ·obtain rfl:=h2 (by simp[ht])
    exact VE
   simp only[go_sem,q1,q3,o3]
   refine bG rfl (by simp only[go_sem];exact hL) ?_
   rintro _ rfl
   cases hl:bg p.funcs w el
   ·obtain rfl:=h2 (by simp[hl])
    exact VE
   simp only[go_sem,q7,hw]
   refine bD hlt ⟨h1 (by simp[ht,hl,k6,k7]),?_⟩
   simp only[go_sem,q3,o3,q1,q2]
  by_cases he0:0<(e.length:Int)
  rotate_left
  ·have hen:¬0<e.length:=a6
   simp only[go_sem,k6,k7,q1,q3,o3,j4,he0]
   refine bG rfl (by simp only[go_sem];exact hT) ?_
   rintro _ rfl
   cases ht:bg p.funcs w th
   ·obtain rfl:=h2 (by simp[ht])
    exact VE
   simp only[go_sem,q1,q3,o3]
   refine bG rfl (by simp only[go_sem];exact hL) ?_
   rintro _ rfl
   cases hl:bg p.funcs w el
   ·obtain rfl:=h2 (by simp[hl])
    exact VE
   simp only[go_sem,q7,hw]
   refine bD hlt ⟨h1 (by simp[ht,hl,k7,hen]),?_⟩
   simp only[go_sem,q3,o3,q1,q2]
  cases hwv:w
  ·have hen:0<e.length:=a6
   obtain rfl:=h2 (by simp[k7,hen,hwv])
   simp only[go_sem,k6,k7,q1,q3,o3,j4,he0,hwv]
   all_goals (exfalso;omega)
  ·rw[hwv] at hT hL q1 h1 h2
   simp only[go_sem,k6,k7,q1,q3,o3,j4,he0,hwv]
   refine bG rfl (by simp only[go_sem];exact hT) ?_
   rintro _ rfl
   cases ht:bg p.funcs true th
   ·obtain rfl:=h2 (by simp[hwv,ht])
    exact VE
   simp only[go_sem,q1,q3,o3]
   refine bG rfl (by simp only[go_sem];exact hL) ?_
   rintro _ rfl
   cases hl:bg p.funcs true el
   ·obtain rfl:=h2 (by simp[hwv,hl])
    exact VE
   simp only[go_sem,q7,hw]
   refine bD hlt ⟨h1 (by simp[ht,hl,k7,hwv]),?_⟩
   simp only[go_sem,q3,o3,q1,q2]
theorem Fc (p:Src.Prog) (hp:Sm p):aq Tryz.prog 35 [bO p] (· = iv .i64 (Src.pe p:Nat)):=by
 refine hdP Tryz.func35 rfl [2] fun g=>?_
 obtain⟨z,hz⟩:∃z,Src.pe p=z:=⟨_,rfl⟩
 rw[hz]
 unfold Src.pe at hz
 obtain⟨pv,pa,pf,pfs⟩:=hp
 have hK:=fun(f:Src.Fn) (hf:f∈p.funcs)=>wy p a6 (au f.body) f.body (j8 _) (by have:=(pfs f hf).2;omega)
 have hF:=fun(f:Src.Fn) (hf:f∈p.funcs)=>MO p a6 f.word (au f.body) f.body (j8 _) (by have:=(pfs f hf).2;omega)
 unfold dO at hK hF
 rw[cB] at hK hF ⊢
 obtain⟨q,hq⟩:∃q,(p.funcs.all fun f=>bF p.funcs f.body)=q:=⟨_,rfl⟩
 have hz0:q=false→z=4:=fun e=>by rw[←hz,hq,if_pos e]
 simp only[go_sem]
 refine dq (fun k st=>((p.funcs.drop k).all fun f=>bF p.funcs f.body)=q∧st.f 1=.one (.ptr 1 (st.gen 1) 0)∧st.obj 1=some [.d (.sl (p.vars.map fun s=>[.str s])),.d (.sl (p.arrays.map arD)),.d (.sl (p.funcs.map fnD))]∧st.f 3=iv .i64 k) p.funcs.length ⟨hq,?_⟩ ?_
 ·exact VE
 rintro k f g1 ob1 hk ⟨hc,q1,o1,q3⟩
 simp only at q1 o1 q3
 have hw:=ab (k:=k) a6
 by_cases hlt:k<p.funcs.length
 ·have hki:(k:Int)<(p.funcs.length:Int):=a6
  obtain⟨fn,hs⟩:=getq hlt
  have hg:=getD_at (f:=fnD) hs
  have hfi:fnD fn=[.str fn.name,.sl (fn.params.map fun s=>[.str s]),.sl (fn.locals.map fun s=>[.str s]),.bool fn.word,.sl (fn.body.map smD)]:=rfl
  rw[hfi] at hg
  obtain⟨h1,h2⟩:=cA hc hs
  simp only[go_sem,q1,o1,q3,hki,j4]
  refine jF b9 ?_
  simp only[go_sem,q1,o1,q3,hki,hg]
  refine bG rfl (by simp only[go_sem];exact hK fn (l0 hs)) ?_
  rintro _ rfl
  cases hkn:bF p.funcs fn.body
  ·obtain rfl:=hz0 (h2 hkn)
   exact VE
  ·simp only[go_sem,q3,hw]
   refine bD hlt ⟨h1 hkn,?_⟩
   exact Xp
 have hki:¬(k:Int)<(p.funcs.length:Int):=a6
 rw[x6 a6] at hc
 have hq1:q=true:=hc.symm
 rw[hq,if_neg (by rw[hq1];decide)] at hz
 rw[hq1,x7] at hq
 clear hc hk hlt hw hz0
 simp only[go_sem,q1,o1,q3,hki,j4]
 obtain⟨r,hr⟩:∃r,(p.funcs.all fun f=>bg p.funcs f.word f.body)=r:=⟨_,rfl⟩
 rw[hr] at hz
 refine dq (fun k st=>((p.funcs.drop k).all fun f=>bg p.funcs f.word f.body)=r∧st.f 1=.one (.ptr 1 (st.gen 1) 0)∧st.obj 1=some [.d (.sl (p.vars.map fun s=>[.str s])),.d (.sl (p.arrays.map arD)),.d (.sl (p.funcs.map fnD))]∧st.f 4=iv .i64 k) p.funcs.length ⟨hr,?_⟩ ?_
 ·exact Xp
 clear hki q1 o1 q3
 rintro k f g1 ob1 hk ⟨hc,q1,o1,q4⟩
 simp only at q1 o1 q4
 have hw:=ab (k:=k) a6
 by_cases hlt:k<p.funcs.length
 ·have hki:(k:Int)<(p.funcs.length:Int):=a6
  obtain⟨fn,hs⟩:=getq hlt
  have hg:=getD_at (f:=fnD) hs
  have hfi:fnD fn=[.str fn.name,.sl (fn.params.map fun s=>[.str s]),.sl (fn.locals.map fun s=>[.str s]),.bool fn.word,.sl (fn.body.map smD)]:=rfl
  rw[hfi] at hg
  have hm:=l0 hs
  obtain⟨h1,h2⟩:=cA hc hs
  simp only[go_sem,q1,o1,q4,hki,j4]
  refine jF b9 ?_
  simp only[go_sem,q1,o1,q4,hki,hg]
  refine bG rfl (by simp only[go_sem];exact hF fn hm (hq fn hm)) ?_
  rintro _ rfl
  cases hkn:bg p.funcs fn.word fn.body
  ·rw[if_pos (h2 hkn)] at hz
   subst hz
   exact VE
  ·simp only[go_sem,q4,hw]
   refine bD hlt ⟨h1 hkn,?_⟩
   exact Xp
 have hki:¬(k:Int)<(p.funcs.length:Int):=a6
 rw[x6 a6] at hc
 have hr1:r=true:=hc.symm
 rw[if_neg (by rw[hr1];decide)] at hz
 subst hz
 simp only[go_sem,q1,o1,q4,hki,j4]
theorem Sm.inP {p:Src.Prog} (h:Sm p) (hin:∀f∈p.funcs,Src.oF f.body):Src.InP p:=⟨by have:=h.v;omega,by have:=h.a;omega,by have:=h.f;omega,fun f hf=>by
 have:=h.fs f hf
 have:=Src.Hm f.body
 exact⟨⟨a6,a6⟩,a6,hin f hf⟩⟩
theorem IG {o:cn} (p:Src.Prog) (hp:Sm p) (hin:∀f∈p.funcs,Src.oF f.body):bI Tryz.prog 3 o 14 [bO p] (· = iv .i64 (Src.bL p:Nat)):=by
 refine hdG Tryz.func14 rfl [.tmp 2] fun b₀ β0 s0 w0 g=>?_
 obtain⟨z,hz⟩:∃z,Src.bL p=z:=⟨_,rfl⟩
 rw[hz]
 unfold Src.bL at hz
 have hR:=Fp p (hp.inP hin)
 have hT:=Fc p hp
 have hS:=fun h=>Fa (o:=o) p hp h
 rw[cB] at hR hT hS ⊢
 simp only[go_sem]
 refine gZ rfl (by simp only[go_sem];exact hR) ?_
 rintro _ rfl
 cases hr:Src.dw p
 ·rw[if_pos hr] at hz
  subst hz
  exact VE
 rw[if_neg (by rw[hr];decide)] at hz
 have h1:1≤p.funcs.length:=by unfold Src.dw at hr;simp at hr;exact hr.1.1.1
 simp only[go_sem]
 refine ck rfl (by simp only[go_sem];exact hS h1) ?_
 rintro _ rfl
 by_cases hs:Src.iy p=0
 ·rw[if_neg (by simp[hs])] at hz
  subst hz
  simp only[go_sem,hs]
  refine gZ rfl (by simp only[go_sem];exact hT) ?_
  rintro _ rfl
  exact VE
 ·rw[if_pos hs] at hz
  subst hz
  have hsi:¬(Src.iy p:Int)=0:=a6
  simp only[go_sem,hsi]
end
end
end Go.Proofs.YtgbcmokfgbmabaaGreatDoorR
namespace Go.Src
section
attribute [local congr] Go.Am.ite_cc
def tv (p:Prog):Bool:=(p.funcs.all fun f=>decide (f.params.length+f.locals.length≤40))&&(decide ((p.arrays.map (·.2)).sum≤4096)&&(decide (p.vars.length≤40)&&decide (p.vars.length+p.arrays.length+p.funcs.length+(p.funcs.map fun f=>f.params.length+f.locals.length+au f.body).sum≤200)))
end
end Go.Src
namespace Go.Proofs.YtgbcmokfgbmabaaGreatDoorR
section
attribute [local congr] Go.Am.ite_cc
open Go Go.Am Go.Asm
open Go.Src (Ex Stm szE aG szS au)
theorem wz:∀(N:Nat) (l:List Ex),aG l≤N→N≤1000000000→aq Tryz.prog 114 [dj l] (· = iv .i64 (aG l:Nat)):=by
 intro N
 induction N using Nat.strongRecOn with
 |ind N ih=>
 intro l hN hNb
 refine hdP Tryz.func114 rfl [2] fun g=>?_
 have hll:=Src.Hl l
 unfold dj
 simp only[go_sem,j4]
 refine dq (fun k st=>∃c:Nat,c+aG (l.drop k)=aG l+(l.drop k).length∧st.f 0=.one (.d (.sl (l.map exD)))∧st.f 3=iv .i64 (c:Nat)∧st.f 4=iv .i64 k) l.length ⟨l.length,by simp;omega,?_⟩ ?_
 ·exact VE
 rintro k f g1 ob1 hk ⟨c,hc,q0,q3,q4⟩
 simp only at q0 q3 q4
 have hw:=ab (k:=k) a6
 by_cases hlt:k<l.length
 case neg=>
  have hki:¬(k:Int)<(l.length:Int):=a6
  rw[x6 a6,aG] at hc
  have hc:c=aG l:=by simpa using hc
  simp only[go_sem,q0,q3,q4,hki,j4,hc]
 have hki:(k:Int)<(l.length:Int):=a6
 obtain⟨e,he⟩:=getq hlt
 have hsz:=Src.Kv (l0 he)
 have hg:=getD_at (f:=exD) he
 obtain⟨kind,op,num,name,kids⟩:=e
 rw[dr he,aG,szE,j6] at hc
 rw[szE] at hsz
 have hx:exD (.mk kind op num name kids)=[.int .i64 kind,.int .i64 op,.int .u32 num,.str name,.sl (kids.map exD)]:=by simp only[exD,aw]
 rw[hx] at hg
 have hK:=ih (aG kids) a6 kids (j8 _) a6
 have hrl:=Src.Hl (l.drop (k+1))
 have hadd:IntKind.i64.wrap ((c:Int)+(aG kids:Nat))=((c+aG kids:Nat):Int):=by rw[wrap_i64] <;> omega
 unfold dj at hK
 simp only[go_sem,q0,q3,q4,hki,j4,hg]
 refine bG rfl (by simp only[go_sem];exact hK) ?_
 rintro _ rfl
 simp only[go_sem,hadd,q4,hw]
 refine bD hlt ⟨c+aG kids,a6,?_⟩
 exact X7
theorem wA:∀(N:Nat) (l:List Stm),au l≤N→N≤1000000000→aq Tryz.prog 74 [dO l] (· = iv .i64 (au l:Nat)):=by
 intro N
 induction N using Nat.strongRecOn with
 |ind N ih=>
 intro l hN hNb
 refine hdP Tryz.func74 rfl [2] fun g=>?_
 have hll:=Src.Hm l
 unfold dO
 simp only[go_sem,j4]
 refine dq (fun k st=>∃c:Nat,c+au (l.drop k)=au l+(l.drop k).length∧st.f 0=.one (.d (.sl (l.map smD)))∧st.f 3=iv .i64 (c:Nat)∧st.f 4=iv .i64 k) l.length ⟨l.length,by simp;omega,?_⟩ ?_
 ·exact VE
 rintro k f g1 ob1 hk ⟨c,hc,q0,q3,q4⟩
 simp only at q0 q3 q4
 have hw:=ab (k:=k) a6
 by_cases hlt:k<l.length
 case neg=>
  have hki:¬(k:Int)<(l.length:Int):=a6
  rw[x6 a6,au] at hc
  have hc:c=au l:=by simpa using hc
  simp only[go_sem,q0,q3,q4,hki,j4,hc]
 have hki:(k:Int)<(l.length:Int):=a6
 obtain⟨e,he⟩:=getq hlt
 have hsz:=Src.Kw (l0 he)
 have hg:=getD_at (f:=smD) he
 obtain⟨kind,name,e,th,el⟩:=e
 rw[dr he,au,szS,j6] at hc
 rw[szS] at hsz
 have hx:smD (.mk kind name e th el)=[.int .i64 kind,.str name,.sl (e.map exD),.sl (th.map smD),.sl (el.map smD)]:=by simp only[smD,aw,cK]
 rw[hx] at hg
 have hE:=wz (aG e) e (j8 _) a6
 have hT:=ih (au th) a6 th (j8 _) a6
 have hL:=ih (au el) a6 el (j8 _) a6
 have hrl:=Src.Hm (l.drop (k+1))
 have a1:IntKind.i64.wrap ((c:Int)+(aG e:Nat))=((c+aG e:Nat):Int):=by rw[wrap_i64] <;> omega
 have a2:IntKind.i64.wrap (((c+aG e:Nat):Int)+(au th:Nat))=((c+aG e+au th:Nat):Int):=by rw[wrap_i64] <;> omega
 have a3:IntKind.i64.wrap (((c+aG e+au th:Nat):Int)+(au el:Nat))=((c+aG e+au th+au el:Nat):Int):=by rw[wrap_i64] <;> omega
 unfold dj at hE
 unfold dO at hT hL
 simp only[go_sem,q0,q3,q4,hki,j4]
 refine df aP mixed b9 ?_
 simp only[go_sem,q0,q3,q4,hki,hg]
 refine ba rfl hE (by simp only[go_sem];exact ct rfl) rfl ?_
 simp only[go_sem,q0,q4,hki,hg,a1]
 refine ba rfl hT (by simp only[go_sem];exact ct rfl) rfl ?_
 simp only[go_sem,q0,q4,hki,hg,a2]
 refine ba rfl hL (by simp only[go_sem];exact ct rfl) rfl ?_
 simp only[go_sem,a3,q4,hw]
 refine bD hlt ⟨c+aG e+au th+au el,a6,?_⟩
 exact X7
theorem qC (p:Src.Prog):szP p=p.vars.length+p.arrays.length+p.funcs.length+(p.funcs.map fun f=>f.params.length+f.locals.length+au f.body).sum:=rfl
theorem Fd {f:Src.Fn→Nat}{l:List Src.Fn}{k:Nat}{x:Src.Fn} (h:l[k]? = some x):((l.drop k).map f).sum=f x+((l.drop (k+1)).map f).sum:=by rw[dr h,l5,C6]
theorem MP (p:Src.Prog) (hp:szP p≤1000000):aq Tryz.prog 36 [bO p] (· = iv .i64 (szP p:Nat)):=by
 refine hdP Tryz.func36 rfl [2] fun g=>?_
 rw[qC] at hp ⊢
 obtain⟨z,hz⟩:∃z,p.vars.length+p.arrays.length+p.funcs.length+(p.funcs.map fun f=>f.params.length+f.locals.length+au f.body).sum=z:=⟨_,rfl⟩
 rw[hz] at hp ⊢
 have b1:IntKind.i64.wrap ((p.vars.length:Int)+(p.arrays.length:Int))=((p.vars.length+p.arrays.length:Nat):Int):=by rw[wrap_i64] <;> omega
 have b2:IntKind.i64.wrap (((p.vars.length+p.arrays.length:Nat):Int)+(p.funcs.length:Int))=((p.vars.length+p.arrays.length+p.funcs.length:Nat):Int):=by rw[wrap_i64] <;> omega
 rw[cB]
 simp only[go_sem,j4,b1,b2]
 refine dq (fun k st=>∃c:Nat,c+((p.funcs.drop k).map fun f=>f.params.length+f.locals.length+au f.body).sum=z∧st.f 1=.one (.ptr 1 (st.gen 1) 0)∧st.obj 1=some [.d (.sl (p.vars.map fun s=>[.str s])),.d (.sl (p.arrays.map arD)),.d (.sl (p.funcs.map fnD))]∧st.f 3=iv .i64 (c:Nat)∧st.f 4=iv .i64 k) p.funcs.length ⟨_,hz,?_⟩ ?_
 ·exact VE
 rintro k f g1 ob1 hk ⟨c,hc,q1,o1,q3,q4⟩
 simp only at q1 o1 q3 q4
 have hw:=ab (k:=k) a6
 by_cases hlt:k<p.funcs.length
 case neg=>
  have hki:¬(k:Int)<(p.funcs.length:Int):=a6
  rw[x6 a6] at hc
  have hc:c=z:=by simpa using hc
  simp only[go_sem,q1,o1,q3,q4,hki,j4,hc]
 have hki:(k:Int)<(p.funcs.length:Int):=a6
 obtain⟨fn,hs⟩:=getq hlt
 have hg:=getD_at (f:=fnD) hs
 have hfi:fnD fn=[.str fn.name,.sl (fn.params.map fun s=>[.str s]),.sl (fn.locals.map fun s=>[.str s]),.bool fn.word,.sl (fn.body.map smD)]:=rfl
 rw[hfi] at hg
 rw[Fd hs] at hc
 have hS:=wA (au fn.body) fn.body (j8 _) a6
 unfold dO at hS
 have a1:IntKind.i64.wrap ((c:Int)+(fn.params.length:Int))=((c+fn.params.length:Nat):Int):=by rw[wrap_i64] <;> omega
 have a2:IntKind.i64.wrap (((c+fn.params.length:Nat):Int)+(fn.locals.length:Int))=((c+fn.params.length+fn.locals.length:Nat):Int):=by rw[wrap_i64] <;> omega
 have a3:IntKind.i64.wrap (((c+fn.params.length+fn.locals.length:Nat):Int)+(au fn.body:Nat))=((c+fn.params.length+fn.locals.length+au fn.body:Nat):Int):=by rw[wrap_i64] <;> omega
 simp only[go_sem,q1,o1,q3,q4,hki,j4]
 refine df aP mixed b9 ?_
 simp only[go_sem,q1,o1,q3,q4,hki,hg,j4,a1,a2]
 refine ba rfl hS (by simp only[go_sem];exact ct rfl) rfl ?_
 simp only[go_sem,a3,q4,hw]
 refine bD hlt ⟨c+fn.params.length+fn.locals.length+au fn.body,a6,?_⟩
 exact Xp
theorem Dc {l:List (Str×Int)}{k:Nat}{x:Str×Int} (h:l[k]? = some x):((l.drop k).map (·.2)).sum=x.2+((l.drop (k+1)).map (·.2)).sum:=by rw[dr h,l5,C6]
theorem Fe:∀{l:List (Str×Int)},(∀a∈l,0≤a.2)→0≤(l.map (·.2)).sum
 |[],_=>by simp
 |a::l,h=>by
   have:=Fe (l:=l) fun x hx=>h x (by simp[hx])
   have:=h a a7
   simp only[l5,C6];omega
theorem IH (p:Src.Prog) (hp:szP p≤1000000) (ha:∀a∈p.arrays,0≤a.2) (hab:(p.arrays.map (·.2)).sum≤1000000000000):aq Tryz.prog 15 [bO p] (· = bv (Src.tv p)):=by
 refine hdP Tryz.func15 rfl [2] fun g=>?_
 have hS:=MP p hp
 rw[qC] at hp hS
 obtain⟨z,hz⟩:∃z,Src.tv p=z:=⟨_,rfl⟩
 rw[hz]
 unfold Src.tv at hz
 obtain⟨N,hN⟩:∃N,p.vars.length+p.arrays.length+p.funcs.length+(p.funcs.map fun f=>f.params.length+f.locals.length+au f.body).sum=N:=⟨_,rfl⟩
 rw[hN] at hz hp hS
 obtain⟨W,hW⟩:∃W,(p.arrays.map (·.2)).sum=W:=⟨_,rfl⟩
 rw[hW] at hz hab
 rw[cB] at hS ⊢
 simp only[go_sem]
 refine dq (fun k st=>∃c:Int,c+((p.arrays.drop k).map (·.2)).sum=W∧0≤c∧st.f 1=.one (.ptr 1 (st.gen 1) 0)∧st.obj 1=some [.d (.sl (p.vars.map fun s=>[.str s])),.d (.sl (p.arrays.map arD)),.d (.sl (p.funcs.map fnD))]∧st.f 3=iv .i64 c∧st.f 4=iv .i64 k) p.arrays.length ⟨0,by simpa using hW,a8,?_⟩ ?_
 ·exact VE
 rintro k f g1 ob1 hk ⟨c,hc,hc0,q1,o1,q3,q4⟩
 simp only at q1 o1 q3 q4
 have hw:=ab (k:=k) a6
 by_cases hlt:k<p.arrays.length
 ·have hki:(k:Int)<(p.arrays.length:Int):=a6
  obtain⟨a,hs⟩:=getq hlt
  have hg:=getD_at (f:=arD) hs
  have hai:arD a=[.str a.1,.int .i64 a.2]:=rfl
  rw[hai] at hg
  rw[Dc hs] at hc
  have h0:=ha a (l0 hs)
  have h1:=Fe (l:=p.arrays.drop (k+1)) fun x hx=>ha x (L3 hx)
  have hadd:IntKind.i64.wrap (c+a.2)=c+a.2:=wrap_i64 _ a6 a6
  simp only[go_sem,q1,o1,q3,q4,hki,j4,hg,hadd,hw]
  refine bD hlt ⟨c+a.2,a6,a6,?_⟩
  exact Xp
 have hki:¬(k:Int)<(p.arrays.length:Int):=a6
 rw[x6 a6] at hc
 have hc:c=W:=by simpa using hc
 subst hc
 clear hk hlt hw
 simp only[go_sem,q1,o1,q3,q4,hki,j4]
 obtain⟨r,hr⟩:∃r,(p.funcs.all fun f=>decide (f.params.length+f.locals.length≤40))=r:=⟨_,rfl⟩
 rw[hr] at hz
 refine dq (fun k st=>((p.funcs.drop k).all fun f=>decide (f.params.length+f.locals.length≤40))=r∧st.f 1=.one (.ptr 1 (st.gen 1) 0)∧st.obj 1=some [.d (.sl (p.vars.map fun s=>[.str s])),.d (.sl (p.arrays.map arD)),.d (.sl (p.funcs.map fnD))]∧st.f 3=iv .i64 c∧st.f 5=iv .i64 k) p.funcs.length ⟨hr,?_⟩ ?_
 ·simp only[go_sem,q1,o1,q3]
 clear hki q1 o1 q3 q4
 rintro k f g1 ob1 hk ⟨hd,q1,o1,q3,q5⟩
 simp only at q1 o1 q3 q5
 have hw:=ab (k:=k) a6
 by_cases hlt:k<p.funcs.length
 ·have hki:(k:Int)<(p.funcs.length:Int):=a6
  obtain⟨fn,hs⟩:=getq hlt
  have hg:=getD_at (f:=fnD) hs
  have hfi:fnD fn=[.str fn.name,.sl (fn.params.map fun s=>[.str s]),.sl (fn.locals.map fun s=>[.str s]),.bool fn.word,.sl (fn.body.map smD)]:=rfl
  rw[hfi] at hg
  obtain⟨h1,h2⟩:=cA hd hs
  have hm:=kh (l0 hs)
  rw[qC,hN] at hm
  have hadd:IntKind.i64.wrap ((fn.params.length:Int)+(fn.locals.length:Int))=((fn.params.length+fn.locals.length:Nat):Int):=by rw[wrap_i64] <;> omega
  simp only[go_sem,q1,o1,q5,hki,j4]
  refine jF b9 ?_
  by_cases h40:(40:Int)<((fn.params.length+fn.locals.length:Nat):Int)
  ·obtain rfl:z=false:=by rw[←hz,h2 (y7 a6)];rfl
   simp only[go_sem,q1,o1,q5,hki,hg,j4,hadd,h40]
  ·simp only[go_sem,q1,o1,q5,hki,hg,j4,hadd,h40,hw]
   refine bD hlt ⟨h1 (A7 a6),?_⟩
   simp only[go_sem,q1,o1,q3]
 have hki:¬(k:Int)<(p.funcs.length:Int):=a6
 rw[x6 a6] at hd
 rw[show r=true from hd.symm,s7] at hz
 by_cases hw1:c≤4096
 case neg=>
  obtain rfl:z=false:=by rw[←hz,y7 hw1];rfl
  simp only[go_sem,q1,o1,q3,q5,hki,j4,hw1]
 rw[A7 hw1,s7] at hz
 by_cases hv:(p.vars.length:Int)≤40
 case neg=>
  obtain rfl:z=false:=by rw[←hz,y7 (show ¬p.vars.length≤40 by omega)];rfl
  simp only[go_sem,q1,o1,q3,q5,hki,j4,hw1,hv]
 rw[A7 (show p.vars.length≤40 by omega),s7] at hz
 simp only[go_sem,q1,o1,q3,q5,hki,j4,hw1,hv]
 refine bG rfl (by simp only[go_sem];exact hS) ?_
 rintro _ rfl
 have e:decide ((N:Int)≤200)=z:=by rw[←hz];congr 1;exact propext ⟨fun h=>by omega,fun h=>by omega⟩
 simp only[go_sem,e]
end
end Go.Proofs.YtgbcmokfgbmabaaGreatDoorR
namespace Go.Emit
section
open Go.Lower (Ins Code Sig codeOf takes)
section
def jr (env:Int×Int→Int) (n:Nat) (c:List MI) (h:Ho):List MI:=
 match c[(h.1-n).toNat]? with
 |some x=>c.set (h.1-n).toNat (x.1,x.2.1,x.2.2.1,env h.2)
 |none=>c
def close (env:Int×Int→Int) (w:Nat→Wr) (n:Nat):List MI:=(w n).holes.foldl (jr env n) (w n).code
variable {n:Nat}{a b c d:Int}{h:Ho}{w:Nat→Wr}{fs:List Src.CFn}
section
variable {env:Int×Int→Int}
theorem xK{c:List MI}:(jr env n c h).length=c.length:=by
 unfold jr
 split
 ·rw[D0]
 ·rfl
theorem jB {n:Nat}:∀(l:List Ho) (c:List MI),(l.foldl (jr env n) c).length=c.length
 |[],_=>rfl
 |h::l,c=>by rw[G0,jB l,xK]
theorem CP:(close env w n).length=(w n).code.length:=jB _ _
theorem CQ{a b:List MI} (h0:(n:Int)≤h.1) (h1:h.1<(n:Int)+a.length):jr env n (a++b) h=jr env n a h++b:=by
 have hk:(h.1-n).toNat<a.length:=a6
 unfold jr
 rw[G3 hk,w9 hk]
 simp only
 rw[List.set_append_left _ _ hk]
theorem zW{a b:List MI} (h0:((n+a.length:Nat):Int)≤h.1):jr env n (a++b) h=a++jr env (n+a.length) b h:=by
 have hk:a.length≤(h.1-n).toNat:=a6
 have he:(h.1-((n+a.length:Nat):Int)).toNat=(h.1-n).toNat-a.length:=a6
 unfold jr
 rw[E8 hk,he]
 cases hx:b[(h.1-(n:Int)).toNat-a.length]? with
 |none=>rfl
 |some x=>
   simp only
   rw[J5 _ _ hk]
theorem qw {n:Nat}{b:List MI}:∀(l:List Ho) (a:List MI),(∀h∈l,(n:Int)≤h.1∧h.1<(n:Int)+a.length)→l.foldl (jr env n) (a++b)=l.foldl (jr env n) a++b
 |[],_,_=>rfl
 |h::l,a,H=>by
   obtain⟨h1,h2⟩:=H h a7
   rw[G0,G0,CQ h1 h2,qw l _ fun x hx=>by rw[xK];exact H x (by simp[hx])]
theorem oz {n:Nat}{a:List MI}:∀(l:List Ho) (b:List MI),(∀h∈l,((n+a.length:Nat):Int)≤h.1)→l.foldl (jr env n) (a++b)=a++l.foldl (jr env (n+a.length)) b
 |[],_,_=>rfl
 |h::l,b,H=>by rw[G0,G0,zW (H h a7),oz l _ fun x hx=>H x (by simp[hx])]
def nM (w:Nat→Wr):Prop:=∀n,∀h∈(w n).holes,(n:Int)≤h.1∧h.1<(n:Int)+(w n).code.length
theorem Fits.inner {L M:Nat}{Q:Int×Int→Prop} (h:Fits L M Q w):nM w:=fun n x hx=>⟨((h n).2.2 x hx).1,((h n).2.2 x hx).2.1⟩
theorem CR {v w:Nat→Wr} (hv:nM v) (hw:nM w):close env (am v w) n=close env v n++close env w (n+(v n).code.length):=by
 unfold close am
 simp only
 rw[P0,qw _ _ (hv n)]
 have hl:((v n).holes.foldl (jr env n) (v n).code).length=(v n).code.length:=jB _ _
 rw[oz _ _ fun h hh=>by rw[hl];have:=(hw _ h hh).1;omega,hl]
theorem CS {v w:Nat→Wr} (hv:nM v) (hw:nM w):nM (am v w):=fun n h hh=>by
 simp only[am,B9,j5] at hh ⊢
 rcases hh with hh|hh
 ·have:=hv n h hh;omega
 ·have:=hw _ h hh;omega
theorem CT:nM (aj a b c d):=fun _ _ h=>by cases h
theorem CU:nM ei:=fun _ _ h=>by cases h
theorem zX:nM (al a b c d):=fun n h hh=>by
 obtain rfl:h=((n:Int),c,d):=by simpa[al] using hh
 exact⟨E6 _,by simp[al];omega⟩
theorem CV:close env (aj a b c d) n=[(a,b,c,d)]:=rfl
theorem zY:close env (al a b c d) n=[(a,b,0,env (c,d))]:=by
 unfold close al
 simp only[G0,R5]
 unfold jr
 simp only
 rw[show ((n:Int)-(n:Int)).toNat=0 by omega]
 rfl
end
def lS (d:fB) (q:Int×Int):Int:=if 0≤q.2 then(((d.pls[q.1.toNat]?).getD [])[q.2.toNat]?).getD 0 else(d.ent[q.1.toNat]?).getD 0
theorem CW (d:fB) (c:List MI) (h:Ho) (h0:0≤h.1):fill d c h=jr (lS d) 0 c h:=by
 unfold fill jr
 rw[show (h.1-((0:Nat):Int)).toNat=h.1.toNat by omega]
 rfl
theorem oA (d:fB):∀(l:List Ho) (c:List MI),(∀h∈l,0≤h.1)→l.foldl (fill d) c=l.foldl (jr (lS d) 0) c
 |[],_,_=>rfl
 |h::l,c,H=>by rw[G0,G0,CW d c h (H h a7),oA d l _ fun x hx=>H x (by simp[hx])]
def zZ (env:Int×Int→Int) (fs:List Src.CFn) (P:Plan) (f n:Nat):List MI:=
 match fs[f]?,P.depths[f]? with
 |some x,some ds=>close env (kf fs P f (eZ x) ds (eZ x).length) n
 |_,_=>[]
def toC (env:Int×Int→Int) (fs:List Src.CFn) (P:Plan):Nat→List MI
 |0=>[(1,15,0,1)]++zZ env fs P (fs.length-1) 1
 |k+1=>toC env fs P k++zZ env fs P k (toC env fs P k).length
theorem vn {env:Int×Int→Int}{P:Plan}{S:Nat} (H:wt fs P S) {d:fB}{done:Nat→Prop}{N f:Nat} (h:ou fs d done N) (hf:f<fs.length) :
  (dW fs P d f).holes.foldl (jr env 0) (dW fs P d f).code=d.holes.foldl (jr env 0) d.code++zZ env fs P f d.code.length:=by
 obtain⟨x,hx⟩:∃x,fs[f]? = some x:=⟨_,w9 hf⟩
 obtain⟨ds,hd⟩:∃ds,P.depths[f]? = some ds:=⟨_,w9 (by rw[H.dl];exact hf)⟩
 rw[vl hx hd]
 unfold zZ
 rw[hx,hd]
 simp only
 rw[P0,qw _ _ fun y hy=>⟨(h.h y hy).1,by have:=(h.h y hy).2.1;omega⟩]
 have hl:(d.holes.foldl (jr env 0) d.code).length=d.code.length:=jB _ _
 rw[oz _ _ fun y hy=>?_,hl,C0]
 ·rfl
 ·rw[hl]
  have:=((H.fits hx ds (eZ x).length).inner _ y hy).1
  omega
theorem tq {env:Int×Int→Int}{fs:List Src.CFn}{P:Plan}{S:Nat} (H:wt fs P S):∀k,k≤fs.length-1→(uH fs P k).holes.foldl (jr env 0) (uH fs P k).code=toC env fs P k
 |0,_=>by
   have hn:=H.n
   have h0:ou fs ⟨[(1,15,0,1)],[],List.replicate fs.length 0,List.replicate fs.length []⟩ (fun _=>False) 1:=⟨a7,a7,(fun _ h=>by cases h),a7,a7,(fun _ h=>False.elim h)⟩
   exact vn H h0 (f:=fs.length-1) a6
 |k+1,hk=>by
   have ih:=tq (env:=env) H k a6
   rw[toC,←ih]
   rw[show (((uH fs P k).holes.foldl (jr env 0) (uH fs P k).code).length)=(uH fs P k).code.length from jB _ _]
   exact vn H (sk H k a6) (f:=k) a6
theorem CX{P:Plan}{S:Nat} (H:wt fs P S):filled (whole fs P)=toC (lS (whole fs P)) fs P (fs.length-1):=by
 have hk:=sk H (fs.length-1) (j8 _)
 unfold filled
 exact(oA (whole fs P) (whole fs P).holes (whole fs P).code fun h hh=>(hk.h h hh).1).trans (tq H _ (j8 _))
end
end
end Go.Emit
namespace Go.Lower
section
section
variable {w:Int}{ps:Sig}{f:Nat}{word:Bool}
mutual
def nbE:Ex→Prop
 |.mk _ _ num _ _ kids=>(0≤num∧num<4294967296)∧CY kids
def CY:List Ex→Prop
 |[]=>True
 |e::l=>nbE e∧CY l
end
mutual
def nbS:Stm→Prop
 |.mk _ _ _ e th el=>CY e∧EL th∧EL el
def EL:List Stm→Prop
 |[]=>True
 |e::l=>nbS e∧EL l
end
def xL (w:Int) (x:Ins):Prop:=(x.op=1→0≤x.n∧x.n<4294967296)∧(x.op=2∨x.op=3→0≤x.a∧x.a<w)∧(x.op=4∨x.op=5→(1≤x.b∧x.b≤4096)∧0≤x.a∧x.a+x.b≤w)∧(x.op=6→4≤x.a∧x.a≤15)
def il (w:Int) (c:Lower.Code):Prop:=∀y∈c,xL w y.1
theorem fj {c d:Lower.Code}:il w (c++d)↔il w c∧il w d:=I1
theorem bp {x:Ins}{n:Int}{c:Lower.Code}:il w ((x,n)::c)↔xL w x∧il w c:=List.forall_mem_cons
theorem bJ:il w []:=fun _ h=>by cases h
theorem dR {op a b n:Int} (h:op=7∨op=8∨op=9∨10≤op):xL w ⟨op,a,b,n⟩:=⟨fun e=>by simp only at e;omega,fun e=>by simp only at e;omega,fun e=>by simp only at e;omega,fun e=>by simp only at e;omega⟩
theorem Aa {n:Int} (h:0≤n∧n<4294967296):xL w ⟨1,0,0,n⟩:=⟨fun _=>h,fun e=>by simp at e,fun e=>by simp at e,fun e=>by simp at e⟩
theorem QF {lv kind op num slot size d:Int}{n:Nat} (h:okE w ps f lv kind op num slot size n) (hn:0≤num∧num<4294967296):il w (one kind op num slot size d):=by
 obtain⟨_,_,_,_,_,h⟩:=h
 rcases h with⟨h|h,_⟩|⟨h,hw,_⟩|⟨h,h1,h2,hw,_⟩|⟨h,_⟩|⟨h,h1,h2,_⟩|⟨h,_⟩|⟨h|h,_⟩
 all_goals subst h
 ·exact bp.2 ⟨Aa hn,bJ⟩
 ·exact bp.2 ⟨dR a8,bJ⟩
 ·obtain⟨a1,_,_,a4⟩:=hw
  exact bp.2 ⟨⟨fun e=>by simp at e,fun _=>by simp only;omega,fun e=>by simp at e,fun e=>by simp at e⟩,bJ⟩
 ·obtain⟨a1,_,_,a4⟩:=hw
  exact bp.2 ⟨⟨fun e=>by simp at e,fun e=>by simp at e,fun _=>by simp only;omega,fun e=>by simp at e⟩,bJ⟩
 ·exact bp.2 ⟨dR a8,bJ⟩
 ·exact bp.2 ⟨⟨fun e=>by simp at e,fun e=>by simp at e,fun e=>by simp at e,fun _=>⟨h1,h2⟩⟩,bJ⟩
 ·exact bp.2 ⟨dR a8,bJ⟩
 ·exact bJ
 ·exact bJ
variable {at':Nat}{c1:Nat→Lower.Code}
theorem Iy{d kind:Int}{c0:Lower.Code} (h0:il w c0) (h1:∀r,il w (c1 r)):il w (kT at' d kind c0 c1):=by
 unfold kT jf
 simp only
 refine fj.2 ⟨h0,fj.2 ⟨?_,?_⟩⟩
 ·split
  ·exact bp.2 ⟨dR a8,bJ⟩
  ·exact bJ
 refine bp.2 ⟨dR a8,bp.2 ⟨Aa (by split <;> decide),bp.2 ⟨dR a8,fj.2 ⟨h1 _,bp.2 ⟨dR a8,bp.2 ⟨dR a8,bJ⟩⟩⟩⟩⟩⟩
mutual
theorem MD:∀(e:Ex) {lv d:Int}{at':Nat},rE w ps f lv e→nbE e→il w (cE at' d e)
 |.mk kind op num slot size kids,lv,d,at',h,hn=>by
   rw[rE] at h
   rw[nbE] at hn
   rw[cE]
   split
   ·exact QG kids h.2 hn.2
   ·exact fj.2 ⟨EM kids h.2 hn.2,QF h.1 hn.1⟩
theorem EM:∀(l:List Ex) {lv d:Int}{at':Nat},rEs w ps f lv l→CY l→il w (cEs at' d l)
 |[],_,_,_,_,_=>by rw[cEs];exact bJ
 |e::l,lv,d,at',h,hn=>by
   rw[rEs] at h
   rw[cEs]
   exact fj.2 ⟨MD e h.1 hn.1,EM l h.2 hn.2⟩
theorem QG:∀(l:List Ex) {lv d kind:Int}{at':Nat},rEs w ps f lv l→CY l→il w (cAO at' d kind l)
 |[],_,_,_,_,_,_=>by rw[cAO];exact bJ
 |e::l,lv,d,kind,at',h,hn=>by
   rw[rEs] at h
   rw[cAO]
   exact Iy (MD e h.1 hn.1) fun r=>EN l h.2 hn.2
theorem EN:∀(l:List Ex) {lv d:Int}{at':Nat},rEs w ps f lv l→CY l→il w (lL at' d l)
 |[],_,_,_,_,_=>by rw[lL];exact bJ
 |e::l,lv,d,at',h,hn=>by
   rw[rEs] at h
   rw[lL]
   exact MD e h.1 hn.1
end
theorem Bn:il w (leave word):=by
 unfold leave
 split
 ·exact bp.2 ⟨Aa a8,bp.2 ⟨dR a8,bJ⟩⟩
 ·exact bp.2 ⟨dR a8,bJ⟩
theorem ME {lv kind slot size:Int}{n nt ne:Nat} (h:okS w ps f word lv kind slot size n nt ne):il w (qQ word kind slot size n):=by
 obtain⟨_,_,_,_,_,h⟩:=h
 rcases h with⟨h,hw,_⟩|⟨h,h1,h2,hw,_⟩|⟨h|h|h,_⟩|⟨h,_⟩|⟨h,_⟩
 all_goals subst h
 ·obtain⟨a1,_,_,a4⟩:=hw
  exact bp.2 ⟨⟨fun e=>by simp at e,fun _=>by simp only;omega,fun e=>by simp at e,fun e=>by simp at e⟩,bJ⟩
 ·obtain⟨a1,_,_,a4⟩:=hw
  exact bp.2 ⟨⟨fun e=>by simp at e,fun e=>by simp at e,fun _=>by simp only;omega,fun e=>by simp at e⟩,bJ⟩
 ·exact bp.2 ⟨dR a8,bJ⟩
 ·exact bJ
 ·exact bJ
 ·exact bp.2 ⟨dR a8,bJ⟩
 ·show il w (if n=0 then leave word else [(⟨11,0,0,0⟩,(n:Int))])
  split
  ·exact Bn
  ·exact bp.2 ⟨dR a8,bJ⟩
theorem EO{c0:Lower.Code} (h0:il w c0) (h1:∀r,il w (c1 r)):il w (jU at' c0 c1):=
 fj.2 ⟨h0,bp.2 ⟨dR a8,fj.2 ⟨h1 _,bp.2 ⟨dR a8,bJ⟩⟩⟩⟩
theorem QH{c1 c2:Nat→Lower.Code}{has:Bool} (h1:∀r,il w (c1 r)) (h2:∀r,il w (c2 r)):il w (ifC at' c1 has c2):=by
 unfold ifC
 split
 ·exact bp.2 ⟨dR a8,fj.2 ⟨h1 _,bp.2 ⟨dR a8,h2 _⟩⟩⟩
 ·exact bp.2 ⟨dR a8,h1 _⟩
mutual
theorem TC:∀(e:Stm) {lv:Int}{at':Nat},rS w ps f word lv e→nbS e→il w (cS word at' e)
 |.mk kind slot size e th el,lv,at',h,hn=>by
   rw[rS] at h
   rw[nbS] at hn
   rw[cS]
   split
   ·exact EO (EN e h.2.1 hn.1) fun r=>xM th h.2.2.1 hn.2.1
   refine fj.2 ⟨EM e h.2.1 hn.1,?_⟩
   split
   ·exact QH (fun r=>xM th h.2.2.1 hn.2.1) fun r=>xM el h.2.2.2 hn.2.2
   ·exact ME h.1
theorem xM:∀(l:List Stm) {lv:Int}{at':Nat},rSs w ps f word lv l→EL l→il w (cSs word at' l)
 |[],_,_,_,_=>by rw[cSs];exact bJ
 |e::l,lv,at',h,hn=>by
   rw[rSs] at h
   rw[cSs]
   exact fj.2 ⟨TC e h.1 hn.1,xM l h.2 hn.2⟩
end
theorem QI {l:List Stm}{lv:Int} (h:rSs w ps f word lv l) (hn:EL l):il w (codeOf word l):=fj.2 ⟨xM l h hn,Bn⟩
end
end
end Go.Lower
namespace Go.Src
section
mutual
def MF:Ex→Prop
 |.mk _ _ num _ kids=>(0≤num∧num<4294967296)∧Bo kids
def Bo:List Ex→Prop
 |[]=>True
 |e::l=>MF e∧Bo l
end
mutual
def MG:Stm→Prop
 |.mk _ _ e th el=>Bo e∧xN th∧xN el
def xN:List Stm→Prop
 |[]=>True
 |e::l=>MG e∧xN l
end
def Ab (p:Prog):Prop:=∀f∈p.funcs,xN f.body
mutual
theorem EP (o i:Pl):∀e:Ex,MF e→Lower.nbE (fy o i e)
 |.mk kind op num name kids,h=>by rw[MF] at h;rw[fy,Lower.nbE];exact⟨h.1,qx o i kids h.2⟩
theorem qx (o i:Pl):∀l:List Ex,Bo l→Lower.CY (cO o i l)
 |[],_=>by rw[cO];trivial
 |e::l,h=>by rw[cO];exact⟨EP o i e h.1,qx o i l h.2⟩
end
mutual
theorem EQ (o i:Pl):∀e:Stm,MG e→Lower.nbS (coreS o i e)
 |.mk kind name e th el,h=>by rw[MG] at h;rw[coreS,Lower.nbS];exact⟨qx o i e h.1,nr o i th h.2.1,nr o i el h.2.2⟩
theorem nr (o i:Pl):∀l:List Stm,xN l→Lower.EL (cD o i l)
 |[],_=>by rw[cD];trivial
 |e::l,h=>by rw[cD];exact⟨EQ o i e h.1,nr o i l h.2⟩
end
theorem TD {p:Prog} (h:bL p=0) (hn:Ab p) {x:CFn} (hx:x∈(ac p).funcs):Lower.il (ac p).words (Emit.eZ x):=by
 obtain⟨k,hk⟩:=B7 hx
 obtain⟨f,w,h1,_,rfl,_⟩:=Emit.EI hx
 exact Lower.QI (AT h hk) (nr _ _ _ (hn f h1))
end
end Go.Src
namespace Go.Emit
section
open Go.Lower (Ins Code Sig codeOf takes xL il Good OkI eS)
open Go.Src (CFn ac bL sigs dw aK Ab)
section
def inP (v most:Int) (b:Bool):Prop:=if b=true then 0≤v∧v≤most else v=0
def rW (x:MI):Prop:=(1≤x.1∧x.1≤27)∧inP x.2.1 15 (Asm.shape x.1.toNat).1∧inP x.2.2.1 15 (Asm.shape x.1.toNat).2.1∧inP x.2.2.2 (if (Asm.shape x.1.toNat).2.2=2 then 15 else 65535) (decide ((Asm.shape x.1.toNat).2.2≠0))
theorem mL {op r b v:Int} (h:op=16∨op=17) (hr:0≤r∧r≤15) (hb:0≤b∧b≤15) (hv:0≤v∧v≤65535):rW (op,r,b,v):=by
 rcases h with rfl|rfl <;> exact⟨a7,hr,hb,hv⟩
theorem tr {op r v:Int} (h:op=1∨op=2∨op=19∨op=20∨op=21∨op=25) (hr:0≤r∧r≤15) (hv:0≤v∧v≤65535):rW (op,r,0,v):=by
 rcases h with rfl|rfl|rfl|rfl|rfl|rfl <;> exact⟨a7,hr,rfl,hv⟩
theorem TE {v:Int} (hv:0≤v∧v≤65535):rW (18,0,0,v):=⟨a7,rfl,rfl,hv⟩
theorem Bp {op a b c:Int} (h:4≤op∧op≤15) (ha:0≤a∧a≤15) (hb:0≤b∧b≤15) (hc:0≤c∧c≤15):rW (op,a,b,c):=by
 have e:Asm.shape op.toNat=(true,true,2):=by
  have h4:4≤op.toNat∧op.toNat≤15:=a6
  unfold Asm.shape
  rw[if_neg a6,if_neg a6,if_pos h4]
 refine⟨⟨by simp only;omega,by simp only;omega⟩,?_⟩
 simp only[e]
 exact⟨ha,hb,hc⟩
theorem MH {op r:Int} (h:op=22∨op=23∨op=24) (hr:0≤r∧r≤15):rW (op,r,0,0):=by
 rcases h with rfl|rfl|rfl <;> exact⟨a7,hr,rfl,rfl⟩
theorem TF:rW (26,0,0,0):=⟨a8,rfl,rfl,rfl⟩
def OkW (env:Int×Int→Int) (w:Nat→Wr):Prop:=nM w∧∀n,n+(w n).code.length≤60000→∀x∈close env w n,rW x
variable {a b c d:Int}
section
variable {env:Int×Int→Int}{v w:Nat→Wr}
theorem bM (hv:OkW env v) (hw:OkW env w):OkW env (am v w):=⟨CS hv.1 hw.1,fun n hn x hx=>by
 rw[CR hv.1 hw.1] at hx
 simp only[am,j5] at hn
 rcases B9.1 hx with h|h
 ·exact hv.2 n a6 x h
 ·exact hw.2 _ a6 x h⟩
theorem kg:OkW env ei:=⟨CU,fun _ _ _ h=>by cases h⟩
theorem cQ (h:rW (a,b,c,d)):OkW env (aj a b c d):=⟨CT,fun n _ x hx=>by rw[CV,C4] at hx;rw[hx];exact h⟩
theorem tt (h:rW (a,b,0,env (c,d))):OkW env (al a b c d):=⟨zX,fun n _ x hx=>by rw[zY,C4] at hx;rw[hx];exact h⟩
variable {P:Plan}{f:Nat}{d b:Int}{fs:List CFn}
theorem jM {r k:Int} (hr:0≤r∧r≤15) (hk:0≤(P.base[f]?).getD 0+d-k∧(P.base[f]?).getD 0+d-k≤65535):OkW env (jL P f d r k):=cQ (mL (.inl rfl) hr a8 hk)
theorem oB {r k:Int} (hr:0≤r∧r≤15) (hk:0≤(P.base[f]?).getD 0+d-k∧(P.base[f]?).getD 0+d-k≤65535):OkW env (ks P f d r k):=cQ (mL (.inr rfl) hr a8 hk)
theorem Ac {r n:Int} (hr:0≤r∧r≤15) (hn:0≤n∧n<4294967296):OkW env (px r n):=by
 unfold px
 split
 ·have:hi16 n=n/65536:=by unfold hi16;omega
  exact bM (cQ (tr a8 hr a6)) (cQ (tr a8 hr a6))
 ·exact cQ (tr a8 hr a6)
theorem vo {a:Int}:∀k:Nat,0≤a∧a+k≤65535→OkW env (td a k)
 |0,_=>kg
 |k+1,h=>bM (vo k a6) (cQ (mL (.inr rfl) a8 a8 a6))
theorem CZ {a c:Int} (h:0≤a∧a≤c∧c≤65000):OkW env (qp a c):=by
 unfold qp
 split
 ·exact vo _ a6
 ·refine And.intro (fun _ _ h=>by cases h) fun n hn x hx=>?_
  simp only[j6,j7] at hn
  simp only[close,R5,z6,A4,E3] at hx
  rcases hx with rfl|rfl|rfl|rfl|rfl|rfl
  ·exact tr a8 a8 a6
  ·exact tr a8 a8 a6
  ·exact mL (.inr rfl) a8 a8 a8
  ·exact Bp a8 a8 a8 a8
  ·exact Bp a8 a8 a8 a8
  ·exact tr a8 a8 a6
theorem xO {p i:Int} (hb:0≤(P.base[f]?).getD 0∧(P.base[f]?).getD 0+d≤65535) (hd:p≤d) (hi:0≤i∧i+p≤65535):∀k:Nat,(k:Int)≤p→OkW env (Bm P f d p i k)
 |0,_=>kg
 |k+1,h=>bM (xO hb hd hi k a6) (bM (jM a8 a6) (cQ (mL (.inr rfl) a8 a8 a6)))
structure Iz (fs:List CFn) (P:Plan) (f:Nat) (W:Int):Prop where
 b:0≤(P.base[f]?).getD 0∧(P.base[f]?).getD 0≤32768
 k:0≤(P.back[f]?).getD 0∧(P.back[f]?).getD 0≤32768
 w:W≤32768
 fs:∀y∈fs,0≤y.params∧y.params≤y.slots∧0≤y.first∧y.first+y.slots≤W
theorem IA (env':∀q,0≤env q∧env q≤65535) {W:Int} (H:Iz fs P f W) {x:Ins}{word:Bool}{t p:Int} (hw:word=(((fs[f]?).map (·.word)).getD false)) (ht:takes (fs.map fun x=>(x.params,x.word)) word x=some (t,p)) (htd:t≤d) (hd:d≤20000) (h0:0≤d) (hW:xL W x):OkW env (rV fs P f d x):=by
 obtain⟨b0,b1⟩:=H.b
 obtain⟨k0,k1⟩:=H.k
 have hww:=H.w
 have r1:(0:Int)≤1∧(1:Int)≤15:=a8
 have r2:(0:Int)≤2∧(2:Int)≤15:=a8
 have r0:(0:Int)≤0∧(0:Int)≤15:=a8
 have hop:=qq ht
 rcases hop with h|h|h|h|h|h|h|h|h|h|h|h|h
 all_goals simp only[rV,h,Int.reduceEq,↓reduceIte]
 all_goals simp only[takes,h,Int.reduceEq,U9,Vr,or_self,E3,false_or,↓reduceIte,s9,G2] at ht
 ·exact bM (Ac r1 (hW.1 h)) (oB r1 a6)
 ·have:=hW.2.1 (.inl h)
  exact bM (cQ (mL (.inl rfl) r1 r0 a6)) (oB r1 a6)
 ·have:=hW.2.1 (.inr h)
  exact bM (jM r1 a6) (cQ (mL (.inr rfl) r1 r0 a6))
 ·have:=hW.2.2.1 (.inl h)
  exact bM (jM r1 a6) (bM (cQ (tr a8 r1 a6)) (bM (cQ (mL (.inl rfl) r1 r1 a6)) (oB r1 a6)))
 ·have:=hW.2.2.1 (.inr h)
  exact bM (jM r1 a6) (bM (cQ (tr a8 r1 a6)) (bM (jM r2 a6) (cQ (mL (.inr rfl) r2 r1 a6))))
 ·exact bM (jM r1 a6) (bM (jM r2 a6) (bM (cQ (Bp (hW.2.2.2 h) r1 r1 r2)) (oB r1 a6)))
 ·exact bM (jM r1 a6) (bM (cQ (Bp a8 r1 r1 r0)) (oB r1 a6))
 ·exact tt (TE (env' _))
 ·exact bM (jM r1 a6) (tt (tr a8 r1 (env' _)))
 ·split at ht
  ·cases ht
  rw[x9,Option.map_map] at ht
  obtain⟨y,hy,ht⟩:=I0.1 ht
  simp only[Function.comp,G2] at ht
  obtain⟨y0,y1,y2,y3⟩:=H.fs y (l0 hy)
  unfold xF
  rw[hy]
  simp only
  refine bM (xO a6 a6 a6 _ a6) (bM (tt (tr a8 a8 (env' _))) ?_)
  split
  ·exact oB r1 a6
  ·exact kg
 ·unfold tc
  split
  ·exact cQ TF
  have hb:=bM (env:=env) (cQ (mL (op:=16) (r:=14) (b:=0) (.inl rfl) a8 r0 ⟨k0,a6⟩)) (cQ (MH (op:=22) (r:=14) a8 a8))
  simp only
  rw[←hw]
  split
  ·rename_i hwt
   rw[if_pos hwt] at ht
   simp only[G2] at ht
   exact bM (jM r1 a6) hb
  ·exact hb
 ·exact bM (cQ (MH a8 r1)) (oB r1 a6)
 ·exact bM (jM r1 a6) (cQ (MH a8 r1))
theorem ER {W:Int} (H:Iz fs P f W):OkW env (xG fs P f):=by
 obtain⟨k0,k1⟩:=H.k
 have hww:=H.w
 unfold xG
 split
 ·exact kg
 ·cases hy:fs[f]? with
  |none=>exact kg
  |some y=>
    obtain⟨y0,y1,y2,y3⟩:=H.fs y (l0 hy)
    exact bM (cQ (mL (.inr rfl) a8 a8 a6)) (CZ a6)
theorem xP (env':∀q,0≤env q∧env q≤65535) {W:Int} (H:Iz fs P f W) {cd:Lower.Code}{ds:List Int}{word:Bool} (hw:word=(((fs[f]?).map (·.word)).getD false))
  (h:∀(k:Nat) (x:Ins×Int) (d:Int),cd[k]? = some x→ds[k]? = some d→0≤d→xL W x.1∧d≤20000∧∃t p,takes (fs.map fun x=>(x.params,x.word)) word x.1=some (t,p)∧t≤d):∀k,OkW env (kf fs P f cd ds k)
 |0=>ER H
 |k+1=>by
   have ih:=xP env' H hw h k
   rw[kf]
   cases hx:cd[k]? with
   |none=>exact bM ih kg
   |some x=>
     cases hd:ds[k]? with
     |none=>exact bM ih kg
     |some d=>
       simp only
       split
       ·rename_i h0
        obtain⟨h1,h2,t,p,h3,h4⟩:=h k x d hx hd h0
        exact bM ih (IA env' H hw h3 h4 h2 h0 h1)
       ·exact bM ih kg
end
end
end
end Go.Emit

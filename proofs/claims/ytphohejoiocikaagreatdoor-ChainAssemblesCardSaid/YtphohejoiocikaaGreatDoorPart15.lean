/- A part of the proof; no conditions. -/
import Derived.Test.YtphohejoiocikaaGreatDoorPart14
set_option linter.unusedSimpArgs false
set_option linter.unusedVariables false
set_option maxHeartbeats 64000000
set_option maxRecDepth 100000
namespace Go.Src
section
attribute [local congr] Go.Am.ite_cc
open Go.Asm (Str)
section
theorem iV:∀(fs:List Fn) (k:Nat) (s:Str),eB fs s=if aw k (fs.map (·.name)) s<0 then none else fs[(aw k (fs.map (·.name)) s).toNat-k]?
 |[],_,_=>rfl
 |f::l,k,s=>by
   rw[eB,j8,aw]
   by_cases h:f.name=s
   ·rw[if_pos h,if_pos h,if_neg a6,show ((k:Int).toNat-k)=0 by omega];rfl
   ·rw[if_neg h,if_neg h,iV l (k+1)]
    have:=eI (l.map (·.name)) (k+1) s
    split
    ·rfl
    ·rename_i hh
     rw[show (aw (k+1) (l.map (·.name)) s).toNat-k=((aw (k+1) (l.map (·.name)) s).toNat-(k+1))+1 by omega,s8]
def lP (fs:List Fn) (s:Str):Int:=aw 0 (fs.map (·.name)) s
variable {fs:List Fn}
theorem Hf{s:Str} (h:lP fs s<0):eB fs s=none:=(iV fs 0 s).trans (if_pos h)
theorem Hg{s:Str} (h:¬lP fs s<0):∃(k:Nat) (f:Fn),lP fs s=(k:Int)∧fs[k]? = some f∧eB fs s=some f:=by
 have hg:=eI (fs.map (·.name)) 0 s
 rw[b7] at hg
 unfold lP at h ⊢
 obtain⟨k,hk⟩:∃k:Nat,aw 0 (fs.map (·.name)) s=(k:Int):=⟨(aw 0 (fs.map (·.name)) s).toNat,a6⟩
 have hlt:k<fs.length:=a6
 refine⟨k,fs[k],hk,p7 hlt,?_⟩
 rw[iV fs 0,if_neg h,hk]
 simp[hlt]
end
end
end Go.Src
namespace Go.Proofs.YtphohejoiocikaaGreatDoor
section
attribute [local congr] Go.Am.ite_cc
open Go Go.Am Go.Asm
open Go.Src (Ex Stm szE bB szS bG lP eB kz mV eh kY cM kA fe mW bW)
section
theorem iW (p:Src.Prog) (hf:p.funcs.length≤1000000) (s:Str):ap Tryz.prog 110 [cz p,sv s] (· = iv .i64 (lP p.funcs s)):=by
 refine hdP Tryz.func110 rfl [4] fun g=>?_
 unfold lP
 obtain⟨z,hz⟩:∃z,Src.aw 0 (p.funcs.map (·.name)) s=z:=⟨_,rfl⟩
 rw[hz,bE]
 simp only[go_sem]
 refine cY (fun k st=>Src.aw k ((p.funcs.drop k).map (·.name)) s=z∧st.f 2=.one (.ptr 2 (st.gen 2) 0)∧st.obj 2=some [.d (.sl (p.vars.map fun s=>[.str s])),.d (.sl (p.arrays.map arD)),.d (.sl (p.funcs.map fnD))]∧st.f 1=sv s∧st.f 5=iv .i64 k) p.funcs.length ⟨hz,?_⟩ ?_
 ·exact Ma
 rintro k f g1 ob1 hk ⟨hc,q2,o2,q1,q5⟩
 simp only at q2 o2 q1 q5
 have hw:=ag (k:=k) a6
 by_cases hlt:k<p.funcs.length
 case neg=>
  have hki:¬(k:Int)<(p.funcs.length:Int):=a6
  rw[l6 a6] at hc
  have hz:z = -1:=hc.symm
  simp only[go_sem,q2,o2,q5,hki,b7,hz]
 have hki:(k:Int)<(p.funcs.length:Int):=a6
 obtain⟨fn,hs⟩:=getq hlt
 have hg:=getD_at (f:=fnD) hs
 have hfi:fnD fn=[.str fn.name,.sl (fn.params.map fun s=>[.str s]),.sl (fn.locals.map fun s=>[.str s]),.bool fn.word,.sl (fn.body.map smD)]:=rfl
 rw[hfi] at hg
 rw[dA hs,j8,Src.aw] at hc
 by_cases hn:fn.name=s
 ·rw[if_pos hn] at hc
  subst hc
  simp only[go_sem,q2,o2,q1,q5,hki,b7,hg,hn]
 ·rw[if_neg hn] at hc
  simp only[go_sem,q2,o2,q1,q5,hki,b7,hg,hn,hw]
  refine bb hlt ⟨hc,?_⟩
  simp only[go_sem,q2,o2,q1]
section
variable {s:St}{p:Src.Prog}
theorem rj {x:Str}:ce s [.agg [.d (.sl (p.vars.map fun s=>[.str s])),.d (.sl (p.arrays.map arD)),.d (.sl (p.funcs.map fnD))],sv x] [cz p,sv x]:=⟨_,_,rfl,pg (qw p),_,_,rfl,⟨_,.d _,rfl⟩,rfl⟩
theorem rm {x:List (List D)}:ce s [.agg [.d (.sl (p.vars.map fun s=>[.str s])),.d (.sl (p.arrays.map arD)),.d (.sl (p.funcs.map fnD))],.one (.d (.sl x))] [cz p,.one (.d (.sl x))]:=⟨_,_,rfl,pg (qw p),_,_,rfl,⟨_,.d _,rfl⟩,rfl⟩
end
theorem nn {fs:List Src.Fn}:∀l:List Ex,eh fs l=l.all (mV fs)
 |[]=>by simp[eh]
 |e::l=>by simp[eh,nn l]
theorem jS {fs:List Src.Fn}:∀l:List Stm,cM fs l=l.all (kY fs)
 |[]=>by simp[cM]
 |e::l=>by simp[cM,jS l]
theorem sU {fs:List Src.Fn}{t:Int}:∀l:List Ex,fe fs t l=l.all fun e=>decide (kA fs e=t)
 |[]=>by simp[fe]
 |e::l=>by simp[fe,sU l]
theorem np {fs:List Src.Fn}{w:Bool}:∀l:List Stm,bW fs w l=l.all (mW fs w)
 |[]=>by simp[bW]
 |e::l=>by simp[bW,np l]
theorem BT (p:Src.Prog) (hf:p.funcs.length≤1000000):∀(N:Nat) (l:List Ex),bB l≤N→N≤1000000000→ap Tryz.prog 111 [cz p,df l] (· = bv (eh p.funcs l)):=by
 intro N
 induction N using Nat.strongRecOn with
 |ind N ih=>
 intro l hN hNb
 refine hdP Tryz.func111 rfl [4] fun g=>?_
 obtain⟨z,hz⟩:∃z,eh p.funcs l=z:=⟨_,rfl⟩
 rw[hz,bE]
 rw[nn] at hz
 have hll:=Src.Ac l
 unfold df
 simp only[go_sem]
 refine cY (fun k st=>(l.drop k).all (mV p.funcs)=z∧st.f 2=.one (.ptr 2 (st.gen 2) 0)∧st.obj 2=some [.d (.sl (p.vars.map fun s=>[.str s])),.d (.sl (p.arrays.map arD)),.d (.sl (p.funcs.map fnD))]∧st.f 1=.one (.d (.sl (l.map exD)))∧st.f 5=iv .i64 k) l.length ⟨hz,?_⟩ ?_
 ·exact Ma
 rintro k f g1 ob1 hk ⟨hc,q2,o2,q1,q5⟩
 simp only at q2 o2 q1 q5
 have hw:=ag (k:=k) a6
 by_cases hlt:k<l.length
 case neg=>
  exact MI
 have hki:(k:Int)<(l.length:Int):=a6
 obtain⟨e,he⟩:=getq hlt
 obtain⟨h1,h2⟩:=cr hc he
 have hsz:=Src.Cy (l4 he)
 have hg:=getD_at (f:=exD) he
 obtain⟨kind,op,num,name,kids⟩:=e
 rw[szE] at hsz
 rw[mV] at h1 h2
 have hx:exD (.mk kind op num name kids)=[.int .i64 kind,.int .i64 op,.int .u32 num,.str name,.sl (kids.map exD)]:=by simp only[exD,bw]
 rw[hx] at hg
 have hK:=ih (bB kids) a6 kids (b9 _) a6
 unfold df at hK
 simp only[go_sem,q1,q5,hki,b7]
 refine ep aQ mixed b0 ?_
 by_cases k4:kind=4
 case' pos=>
  rw[if_pos k4] at h1 h2
  simp only[go_sem,q1,q2,o2,q5,hg,hki,k4]
  refine bd rfl (iW p hf name) OQ rfl ?_
  by_cases hn:lP p.funcs name<0
  ·obtain rfl:=h2 (by rw[Src.Hf hn];rfl)
   simp only[go_sem,hn]
  obtain⟨_,_,_,_,hs⟩:=Src.Hg hn
  rw[hs,J1,A0] at h1 h2
  simp only[go_sem,q1,q2,o2,q5,hg,hki,hn]
 case' neg=>
  rw[if_neg k4,A0] at h1 h2
  simp only[go_sem,q1,q2,o2,q5,hg,hki,k4]
 all_goals refine bd rfl hK OR rfl ?_
 all_goals cases hkn:eh p.funcs kids
 all_goals simp only[go_sem,hkn,q5,hw]
 any_goals exact(h2 hkn).symm
 all_goals refine bb hlt ⟨h1 hkn,?_⟩
 all_goals simp only[go_sem,q2,o2,q1]
theorem rp (p:Src.Prog) (hf:p.funcs.length≤1000000):∀(N:Nat) (l:List Stm),bG l≤N→N≤1000000000→ap Tryz.prog 65 [cz p,dM l] (· = bv (cM p.funcs l)):=by
 intro N
 induction N using Nat.strongRecOn with
 |ind N ih=>
 intro l hN hNb
 refine hdP Tryz.func65 rfl [4] fun g=>?_
 obtain⟨z,hz⟩:∃z,cM p.funcs l=z:=⟨_,rfl⟩
 rw[hz,bE]
 rw[jS] at hz
 have hll:=Src.Ad l
 unfold dM
 simp only[go_sem]
 refine cY (fun k st=>(l.drop k).all (kY p.funcs)=z∧st.f 2=.one (.ptr 2 (st.gen 2) 0)∧st.obj 2=some [.d (.sl (p.vars.map fun s=>[.str s])),.d (.sl (p.arrays.map arD)),.d (.sl (p.funcs.map fnD))]∧st.f 1=.one (.d (.sl (l.map smD)))∧st.f 5=iv .i64 k) l.length ⟨hz,?_⟩ ?_
 ·exact Ma
 rintro k f g1 ob1 hk ⟨hc,q2,o2,q1,q5⟩
 simp only at q2 o2 q1 q5
 have hw:=ag (k:=k) a6
 by_cases hlt:k<l.length
 case neg=>
  exact MI
 have hki:(k:Int)<(l.length:Int):=a6
 obtain⟨e,he⟩:=getq hlt
 obtain⟨h1,h2⟩:=cr hc he
 have hsz:=Src.Cz (l4 he)
 have hg:=getD_at (f:=smD) he
 obtain⟨kind,name,e,th,el⟩:=e
 rw[szS] at hsz
 rw[kY] at h1 h2
 have hx:smD (.mk kind name e th el)=[.int .i64 kind,.str name,.sl (e.map exD),.sl (th.map smD),.sl (el.map smD)]:=by simp only[smD,bw,dR]
 rw[hx] at hg
 have hE:=BT p hf (bB e) e (b9 _) a6
 have hT:=ih (bG th) a6 th (b9 _) a6
 have hL:=ih (bG el) a6 el (b9 _) a6
 unfold df at hE
 unfold dM at hT hL
 simp only[go_sem,q1,q5,hki,b7]
 refine ep aQ mixed b0 ?_
 by_cases k4:kind=6
 case' pos=>
  rw[if_pos k4] at h1 h2
  simp only[go_sem,q1,q2,o2,q5,hg,hki,k4]
  refine bd rfl (iW p hf name) OQ rfl ?_
  by_cases hn:lP p.funcs name<0
  ·obtain rfl:=h2 (by rw[Src.Hf hn];rfl)
   simp only[go_sem,hn]
  obtain⟨_,_,_,_,hs⟩:=Src.Hg hn
  rw[hs,J1,A0] at h1 h2
  simp only[go_sem,q1,q2,o2,q5,hg,hki,hn]
 case' neg=>
  rw[if_neg k4,A0] at h1 h2
  simp only[go_sem,q1,q2,o2,q5,hg,hki,k4]
 all_goals refine bd rfl hE OR rfl ?_
 all_goals cases hkn:eh p.funcs e
 all_goals simp only[go_sem,hkn,q1,q2,o2,q5,hg,hki]
 any_goals exact(h2 (by rw[hkn];rfl)).symm
 all_goals refine bd rfl hT OR rfl ?_
 all_goals cases htn:cM p.funcs th
 all_goals simp only[go_sem,htn,q1,q2,o2,q5,hg,hki]
 any_goals exact(h2 (by rw[hkn,htn];rfl)).symm
 all_goals refine bd rfl hL OR rfl ?_
 all_goals cases hln:cM p.funcs el
 all_goals simp only[go_sem,hln,q5,hw]
 any_goals exact(h2 (by rw[hkn,htn,hln];rfl)).symm
 all_goals refine bb hlt ⟨h1 (by rw[hkn,htn,hln];rfl),?_⟩
 all_goals simp only[go_sem,q2,o2,q1]
end
section
variable {fs:List Src.Fn}
theorem zo{s:Str} (h:lP fs s<0):kz fs s=false:=by unfold kz;rw[Src.Hf h]
theorem Fw (p:Src.Prog) (hf:p.funcs.length≤1000000) (kind op num:Int) (name:Str) (kids:List Ex) (hW:ap Tryz.prog 113 [cz p,df kids] (· = bv (fe p.funcs 1 kids))) (hB:ap Tryz.prog 112 [cz p,df kids] (· = bv (fe p.funcs 2 kids))) :
  ap Tryz.prog 153 [cz p,exV (.mk kind op num name kids)] (· = iv .i64 (kA p.funcs (.mk kind op num name kids))):=by
 refine hdP Tryz.func153 rfl [4] fun g=>?_
 have hE:exV (.mk kind op num name kids)=.agg [.d (.int .i64 kind),.d (.int .i64 op),.d (.int .u32 num),.d (.str name),.d (.sl (kids.map exD))]:=by simp only[exV,exD,bw,j8,n0]
 have hN:=iW p hf name
 obtain⟨z,hz⟩:∃z,kA p.funcs (.mk kind op num name kids)=z:=⟨_,rfl⟩
 rw[hz,hE]
 rw[kA] at hz
 unfold df at hW hB
 rw[bE] at hW hB hN ⊢
 have hk:kind=1∨kind=2∨kind=5∨kind=3∨kind=4∨kind=6∨kind=7∨kind=8∨kind=9∨(¬kind=1∧¬kind=2∧¬kind=3∧¬kind=4∧¬kind=5∧¬kind=6∧¬kind=7∧¬kind=8∧¬kind=9):=a6
 rcases hk with rfl|rfl|rfl|rfl|rfl|rfl|rfl|rfl|rfl|⟨k1,k2,k3,k4,k5,k6,k7,k8,k9⟩
 iterate 3
  ·obtain rfl:z=1:=by rw[←hz];simp
   simp only[go_sem]
 ·simp only[go_sem]
  refine aV rfl OS ?_
  rintro _ rfl
  cases hw:fe p.funcs 1 kids
  ·exact Ng
  ·obtain rfl:z=1:=by rw[←hz,hw];simp
   exact Ma
 ·simp only[go_sem]
  refine aV rfl Oj ?_
  rintro _ rfl
  by_cases hn:lP p.funcs name<0
  ·obtain rfl:z=0:=by rw[←hz,zo hn];simp
   simp only[go_sem,show ¬0≤lP p.funcs name by omega]
  obtain⟨k,fn,hk,hfn,hs⟩:=Src.Hg hn
  have hg:=getD_at (f:=fnD) hfn
  have hfi:fnD fn=[.str fn.name,.sl (fn.params.map fun s=>[.str s]),.sl (fn.locals.map fun s=>[.str s]),.bool fn.word,.sl (fn.body.map smD)]:=rfl
  rw[hfi] at hg
  have hwf:kz p.funcs name=fn.word:=by unfold kz;rw[hs]
  rw[hwf] at hz
  have hk0:(0:Int)≤(k:Int):=a6
  cases hfw:fn.word
  ·obtain rfl:z=0:=by rw[←hz,hfw];simp
   simp only[go_sem,hk,hk0,hg,hfw]
  simp only[go_sem,hk,hk0,hg,hfw]
  refine aV rfl OS ?_
  rintro _ rfl
  cases hw:fe p.funcs 1 kids
  ·exact Ng
  ·obtain rfl:z=1:=by rw[←hz,hw,hfw];simp
   exact Ma
 ·simp only[go_sem]
  refine aV rfl OS ?_
  rintro _ rfl
  cases hw:fe p.funcs 1 kids
  ·exact Ng
  by_cases h14:op=14
  ·obtain rfl:z=2:=by rw[←hz,hw,h14];simp
   simp only[go_sem,h14]
  by_cases h15:op=15
  ·obtain rfl:z=2:=by rw[←hz,hw,h15];simp
   simp only[go_sem,h15]
  obtain rfl:z=1:=by rw[←hz,hw];simp[h14,h15]
  simp only[go_sem,h14,h15]
 iterate 3
  ·simp only[go_sem]
   refine aV rfl OG ?_
   rintro _ rfl
   cases hw:fe p.funcs 2 kids
   ·exact Ng
   ·obtain rfl:z=2:=by rw[←hz,hw];simp
    exact Ma
 ·obtain rfl:z=0:=by rw[←hz,if_pos a6]
  simp only[go_sem,k1,k2,k3,k4,k5,k6,k7,k8,k9]
theorem BU (p:Src.Prog) (hf:p.funcs.length≤1000000):∀(N:Nat) (l:List Ex),bB l≤N→N≤1000000000→ap Tryz.prog 113 [cz p,df l] (· = bv (fe p.funcs 1 l))∧ap Tryz.prog 112 [cz p,df l] (· = bv (fe p.funcs 2 l)):=by
 intro N
 induction N using Nat.strongRecOn with
 |ind N ih=>
 intro l hN hNb
 have hll:=Src.Ac l
 have hT:∀(k:Nat) (e:Ex),l[k]? = some e→ap Tryz.prog 153 [cz p,exV e] (· = iv .i64 (kA p.funcs e)):=fun k e he=>by
  have hsz:=Src.Cy (l4 he)
  obtain⟨kind,op,num,name,kids⟩:=e
  rw[szE] at hsz
  have:=ih (bB kids) a6 kids (b9 _) a6
  exact Fw p hf kind op num name kids this.1 this.2
 unfold df
 rw[bE] at hT ⊢
 constructor
 case' left=>
  refine hdP Tryz.func113 rfl [4] fun g=>?_
  obtain⟨t,ht⟩:∃t:Int,t=1:=⟨_,rfl⟩
  rw[show fe p.funcs 1 l=fe p.funcs t l by rw[ht]]
 case' right=>
  refine hdP Tryz.func112 rfl [4] fun g=>?_
  obtain⟨t,ht⟩:∃t:Int,t=2:=⟨_,rfl⟩
  rw[show fe p.funcs 2 l=fe p.funcs t l by rw[ht]]
 all_goals obtain⟨z,hz⟩:∃z,fe p.funcs t l=z:=⟨_,rfl⟩
 all_goals rw[hz]
 all_goals rw[sU] at hz
 all_goals simp only[go_sem]
 all_goals refine cY (fun k st=>((l.drop k).all fun e=>decide (kA p.funcs e=t))=z∧st.f 2=.one (.ptr 2 (st.gen 2) 0)∧st.obj 2=some [.d (.sl (p.vars.map fun s=>[.str s])),.d (.sl (p.arrays.map arD)),.d (.sl (p.funcs.map fnD))]∧st.f 1=.one (.d (.sl (l.map exD)))∧st.f 5=iv .i64 k) l.length ⟨hz,N9⟩ ?_
 all_goals rintro k f g1 ob1 hk ⟨hc,q2,o2,q1,q5⟩
 all_goals simp only at q2 o2 q1 q5
 all_goals have hw:=ag (k:=k) a6
 all_goals
  by_cases hlt:k<l.length
  rotate_left
  ·exact MI
  have hki:(k:Int)<(l.length:Int):=a6
  obtain⟨e,he⟩:=getq hlt
  obtain⟨h1,h2⟩:=cr hc he
  have hg:=getD_at (f:=exD) he
  have hTe:=hT k e he
  have hel:∃a b c d x,exD e=[.int .i64 a,.int .i64 b,.int .u32 c,.str d,.sl x]:=by cases e;exact⟨_,_,_,_,_,by rw[exD]⟩
  obtain⟨a,b,c,d,x,hel⟩:=hel
  unfold exV at hTe
  rw[hel] at hTe hg
  simp only[go_sem,q1,q5,hki,b7]
  refine iI b0 ?_
  simp only[go_sem,q1,q2,o2,q5,hki,hg]
  refine aV rfl (by simp only[go_sem];exact hTe) ?_
  rintro _ rfl
  by_cases hty:kA p.funcs e=t
  ·rw[ht] at hty
   simp only[go_sem,hty,q5,hw]
   refine bb hlt ⟨h1 (w9 (by rw[hty,ht])),?_⟩
   simp only[go_sem,q2,o2,q1]
  ·obtain rfl:=h2 (s6 hty)
   rw[ht] at hty
   simp only[go_sem,hty]
theorem Jw {kind:Int}{e:List Ex}:fe fs (if kind=4∨kind=5 then 2 else 1) e=if kind=4∨kind=5 then fe fs 2 e else fe fs 1 e:=by split <;> rfl
theorem Fx (p:Src.Prog) (hf:p.funcs.length≤1000000) (w:Bool):∀(N:Nat) (l:List Stm),bG l≤N→N≤1000000000→cM p.funcs l=true→ap Tryz.prog 66 [cz p,bv w,dM l] (· = bv (bW p.funcs w l)):=by
 intro N
 induction N using Nat.strongRecOn with
 |ind N ih=>
 intro l hN hNb hkn
 refine hdP Tryz.func66 rfl [6] fun g=>?_
 obtain⟨z,hz⟩:∃z,bW p.funcs w l=z:=⟨_,rfl⟩
 rw[hz,bE]
 rw[np] at hz
 rw[jS,l7] at hkn
 have hll:=Src.Ad l
 unfold dM
 simp only[go_sem]
 refine cY (fun k st=>(l.drop k).all (mW p.funcs w)=z∧st.f 3=.one (.ptr 3 (st.gen 3) 0)∧st.obj 3=some [.d (.sl (p.vars.map fun s=>[.str s])),.d (.sl (p.arrays.map arD)),.d (.sl (p.funcs.map fnD))]∧st.f 1=bv w∧st.f 2=.one (.d (.sl (l.map smD)))∧st.f 7=iv .i64 k) l.length ⟨hz,?_⟩ ?_
 ·exact Ma
 rintro k f g1 ob1 hk ⟨hc,q3,o3,q1,q2,q7⟩
 simp only at q3 o3 q1 q2 q7
 have hw:=ag (k:=k) a6
 by_cases hlt:k<l.length
 case neg=>
  have hki:¬(k:Int)<(l.length:Int):=a6
  rw[l6 a6] at hc
  obtain rfl:z=true:=hc.symm
  simp only[go_sem,q2,q7,hki,b7]
 have hki:(k:Int)<(l.length:Int):=a6
 obtain⟨e,he⟩:=getq hlt
 obtain⟨h1,h2⟩:=cr hc he
 have hsz:=Src.Cz (l4 he)
 have hkn:=hkn e (l4 he)
 have hg:=getD_at (f:=smD) he
 obtain⟨kind,name,e,th,el⟩:=e
 rw[szS] at hsz
 rw[kY] at hkn
 simp only[l5] at hkn
 rw[mW,Jw] at h1 h2
 have hx:smD (.mk kind name e th el)=[.int .i64 kind,.str name,.sl (e.map exD),.sl (th.map smD),.sl (el.map smD)]:=by simp only[smD,bw,dR]
 rw[hx] at hg
 obtain⟨hW,hB⟩:=BU p hf (bB e) e (b9 _) a6
 have hT:=ih (bG th) a6 th (b9 _) a6 hkn.2.1
 have hL:=ih (bG el) a6 el (b9 _) a6 hkn.2.2
 have hN:=iW p hf name
 rw[bE] at hW hB hT hL
 unfold df at hW hB
 unfold dM at hT hL
 obtain⟨y,hy⟩:∃y,(if kind=4∨kind=5 then fe p.funcs 2 e else fe p.funcs 1 e)=y:=⟨_,rfl⟩
 rw[hy] at h1 h2
 have hy0:y=false→z=false:=fun e=>h2 (by rw[e];simp)
 by_cases k4:kind=4
 case' pos=>
  rw[if_pos (.inl k4)] at hy
  simp only[go_sem,q2,q3,o3,q7,hki,b7,hg,k4]
  refine aV rfl OG ?_
  rintro _ rfl
  rw[hy]
  have k6:¬kind=6:=a6
 case' neg=>
  by_cases k5:kind=5
  case' pos=>
   rw[if_pos (.inr k5)] at hy
   simp only[go_sem,q2,q3,o3,q7,hki,b7,hg,k5]
   refine aV rfl OG ?_
   rintro _ rfl
   rw[hy]
   have k6:¬kind=6:=a6
  case' neg=>
   rw[if_neg a6] at hy
   simp only[go_sem,q2,q3,o3,q7,hki,b7,hg,k4,k5]
   refine aV rfl OS ?_
   rintro _ rfl
   rw[hy]
   by_cases k6:kind=6
   case pos=>
    cases y
    ·obtain rfl:=hy0 rfl
     exact Ma
    simp only[go_sem]
    refine ep aQ mixed b0 ?_
    have hfs:(eB p.funcs name).isSome=true:=by have:=hkn.1.1;rwa [if_pos k6] at this
    have hn:¬lP p.funcs name<0:=fun h=>by rw[Src.Hf h] at hfs;cases hfs
    obtain⟨m,fn,hm,hfn,hs⟩:=Src.Hg hn
    have hgf:=getD_at (f:=fnD) hfn
    have hfi:fnD fn=[.str fn.name,.sl (fn.params.map fun s=>[.str s]),.sl (fn.locals.map fun s=>[.str s]),.bool fn.word,.sl (fn.body.map smD)]:=rfl
    rw[hfi] at hgf
    have hwf:kz p.funcs name=fn.word:=by unfold kz;rw[hs]
    have hm0:(0:Int)≤(m:Int):=a6
    rw[hwf] at h1 h2
    cases hwd:fn.word
    case true=>
     obtain rfl:=h2 (by simp[hwd,k6])
     simp only[go_sem,k6,q3,o3]
     refine bd rfl hN OQ rfl ?_
     simp only[go_sem,hm,hm0,hgf,hwd]
    simp only[go_sem,k6,q3,o3]
    refine bd rfl hN OQ rfl ?_
    simp only[go_sem,hm,hm0,hgf,hwd,k6,q1,q3,o3]
    refine aV rfl Ov ?_
    rintro _ rfl
    cases ht:bW p.funcs w th
    ·obtain rfl:=h2 (by simp[ht])
     exact Ma
    simp only[go_sem,q1,q3,o3]
    refine aV rfl Og ?_
    rintro _ rfl
    cases hl:bW p.funcs w el
    ·obtain rfl:=h2 (by simp[hl])
     exact Ma
    simp only[go_sem,q7,hw]
    refine bb hlt ⟨h1 (by simp[ht,hl,hwd,k6]),?_⟩
    simp only[go_sem,q3,o3,q1,q2]
 all_goals
  cases y
  ·obtain rfl:=hy0 rfl
   exact Ma
  simp only[go_sem]
  refine ep aQ mixed b0 ?_
  by_cases k7:kind=7
  rotate_left
  ·simp only[go_sem,k6,k7,q1,q3,o3]
   refine aV rfl Ov ?_
   rintro _ rfl
   cases ht:bW p.funcs w th
   ·obtain rfl:=h2 (by simp[ht])
    exact Ma
   simp only[go_sem,q1,q3,o3]
   refine aV rfl Og ?_
   rintro _ rfl
   cases hl:bW p.funcs w el
   ·obtain rfl:=h2 (by simp[hl])
    exact Ma
   simp only[go_sem,q7,hw]
   refine bb hlt ⟨h1 (by simp[ht,hl,k6,k7]),?_⟩
   simp only[go_sem,q3,o3,q1,q2]
  by_cases he0:0<(e.length:Int)
  rotate_left
  ·have hen:¬0<e.length:=a6
   simp only[go_sem,k6,k7,q1,q3,o3,b7,he0]
   refine aV rfl Ov ?_
   rintro _ rfl
   cases ht:bW p.funcs w th
   ·obtain rfl:=h2 (by simp[ht])
    exact Ma
   simp only[go_sem,q1,q3,o3]
   refine aV rfl Og ?_
   rintro _ rfl
   cases hl:bW p.funcs w el
   ·obtain rfl:=h2 (by simp[hl])
    exact Ma
   simp only[go_sem,q7,hw]
   refine bb hlt ⟨h1 (by simp[ht,hl,k7,hen]),?_⟩
   simp only[go_sem,q3,o3,q1,q2]
  cases hwv:w
  ·have hen:0<e.length:=a6
   obtain rfl:=h2 (by simp[k7,hen,hwv])
   simp only[go_sem,k6,k7,q1,q3,o3,b7,he0,hwv]
   all_goals (exfalso;omega)
  ·rw[hwv] at hT hL q1 h1 h2
   simp only[go_sem,k6,k7,q1,q3,o3,b7,he0,hwv]
   refine aV rfl Ov ?_
   rintro _ rfl
   cases ht:bW p.funcs true th
   ·obtain rfl:=h2 (by simp[hwv,ht])
    exact Ma
   simp only[go_sem,q1,q3,o3]
   refine aV rfl Og ?_
   rintro _ rfl
   cases hl:bW p.funcs true el
   ·obtain rfl:=h2 (by simp[hwv,hl])
    exact Ma
   simp only[go_sem,q7,hw]
   refine bb hlt ⟨h1 (by simp[ht,hl,k7,hwv]),?_⟩
   simp only[go_sem,q3,o3,q1,q2]
theorem zp (p:Src.Prog) (hp:Sm p):ap Tryz.prog 34 [cz p] (· = iv .i64 (Src.Gq p:Nat)):=by
 refine hdP Tryz.func34 rfl [2] fun g=>?_
 obtain⟨z,hz⟩:∃z,Src.Gq p=z:=⟨_,rfl⟩
 rw[hz]
 unfold Src.Gq at hz
 obtain⟨pv,pa,pf,pfs⟩:=hp
 have hK:=fun(f:Src.Fn) (hf:f∈p.funcs)=>rp p a6 (bG f.body) f.body (b9 _) (by have:=(pfs f hf).2;omega)
 have hF:=fun(f:Src.Fn) (hf:f∈p.funcs)=>Fx p a6 f.word (bG f.body) f.body (b9 _) (by have:=(pfs f hf).2;omega)
 unfold dM at hK hF
 rw[bE] at hK hF ⊢
 obtain⟨q,hq⟩:∃q,(p.funcs.all fun f=>cM p.funcs f.body)=q:=⟨_,rfl⟩
 have hz0:q=false→z=4:=fun e=>by rw[←hz,hq,if_pos e]
 simp only[go_sem]
 refine cY (fun k st=>((p.funcs.drop k).all fun f=>cM p.funcs f.body)=q∧st.f 1=.one (.ptr 1 (st.gen 1) 0)∧st.obj 1=some [.d (.sl (p.vars.map fun s=>[.str s])),.d (.sl (p.arrays.map arD)),.d (.sl (p.funcs.map fnD))]∧st.f 3=iv .i64 k) p.funcs.length ⟨hq,?_⟩ ?_
 ·exact Ma
 rintro k f g1 ob1 hk ⟨hc,q1,o1,q3⟩
 simp only at q1 o1 q3
 have hw:=ag (k:=k) a6
 by_cases hlt:k<p.funcs.length
 ·have hki:(k:Int)<(p.funcs.length:Int):=a6
  obtain⟨fn,hs⟩:=getq hlt
  have hg:=getD_at (f:=fnD) hs
  have hfi:fnD fn=[.str fn.name,.sl (fn.params.map fun s=>[.str s]),.sl (fn.locals.map fun s=>[.str s]),.bool fn.word,.sl (fn.body.map smD)]:=rfl
  rw[hfi] at hg
  obtain⟨h1,h2⟩:=cr hc hs
  simp only[go_sem,q1,o1,q3,hki,b7]
  refine iI b0 ?_
  simp only[go_sem,q1,o1,q3,hki,hg]
  refine aV rfl (by simp only[go_sem];exact hK fn (l4 hs)) ?_
  rintro _ rfl
  cases hkn:cM p.funcs fn.body
  ·obtain rfl:=hz0 (h2 hkn)
   exact Ma
  ·simp only[go_sem,q3,hw]
   refine bb hlt ⟨h1 hkn,?_⟩
   exact ND
 have hki:¬(k:Int)<(p.funcs.length:Int):=a6
 rw[l6 a6] at hc
 have hq1:q=true:=hc.symm
 rw[hq,if_neg (by rw[hq1];decide)] at hz
 rw[hq1,l7] at hq
 clear hc hk hlt hw hz0
 simp only[go_sem,q1,o1,q3,hki,b7]
 obtain⟨r,hr⟩:∃r,(p.funcs.all fun f=>bW p.funcs f.word f.body)=r:=⟨_,rfl⟩
 rw[hr] at hz
 refine cY (fun k st=>((p.funcs.drop k).all fun f=>bW p.funcs f.word f.body)=r∧st.f 1=.one (.ptr 1 (st.gen 1) 0)∧st.obj 1=some [.d (.sl (p.vars.map fun s=>[.str s])),.d (.sl (p.arrays.map arD)),.d (.sl (p.funcs.map fnD))]∧st.f 4=iv .i64 k) p.funcs.length ⟨hr,?_⟩ ?_
 ·exact ND
 clear hki q1 o1 q3
 rintro k f g1 ob1 hk ⟨hc,q1,o1,q4⟩
 simp only at q1 o1 q4
 have hw:=ag (k:=k) a6
 by_cases hlt:k<p.funcs.length
 ·have hki:(k:Int)<(p.funcs.length:Int):=a6
  obtain⟨fn,hs⟩:=getq hlt
  have hg:=getD_at (f:=fnD) hs
  have hfi:fnD fn=[.str fn.name,.sl (fn.params.map fun s=>[.str s]),.sl (fn.locals.map fun s=>[.str s]),.bool fn.word,.sl (fn.body.map smD)]:=rfl
  rw[hfi] at hg
  have hm:=l4 hs
  obtain⟨h1,h2⟩:=cr hc hs
  simp only[go_sem,q1,o1,q4,hki,b7]
  refine iI b0 ?_
  simp only[go_sem,q1,o1,q4,hki,hg]
  refine aV rfl (by simp only[go_sem];exact hF fn hm (hq fn hm)) ?_
  rintro _ rfl
  cases hkn:bW p.funcs fn.word fn.body
  ·rw[if_pos (h2 hkn)] at hz
   subst hz
   exact Ma
  ·simp only[go_sem,q4,hw]
   refine bb hlt ⟨h1 hkn,?_⟩
   exact ND
 have hki:¬(k:Int)<(p.funcs.length:Int):=a6
 rw[l6 a6] at hc
 have hr1:r=true:=hc.symm
 rw[if_neg (by rw[hr1];decide)] at hz
 subst hz
 simp only[go_sem,q1,o1,q4,hki,b7]
theorem Sm.inP {p:Src.Prog} (h:Sm p) (hin:∀f∈p.funcs,Src.pi f.body):Src.InP p:=⟨by have:=h.v;omega,by have:=h.a;omega,by have:=h.f;omega,fun f hf=>by
 have:=h.fs f hf
 have:=Src.Ad f.body
 exact⟨⟨a6,a6⟩,a6,hin f hf⟩⟩
theorem BV {o:bU} (p:Src.Prog) (hp:Sm p) (hin:∀f∈p.funcs,Src.pi f.body):bu Tryz.prog 5 o 11 [cz p] (· = iv .i64 (Src.KV p:Nat)):=by
 refine hdG Tryz.func11 rfl [.tmp 2] fun b₀ β0 s0 w0 g=>?_
 obtain⟨z,hz⟩:∃z,Src.KV p=z:=⟨_,rfl⟩
 rw[hz]
 unfold Src.KV at hz
 have hR:=ta p (hp.inP hin)
 have hT:=zp p hp
 have hS:=fun h=>zn (o:=o) p hp h
 rw[bE] at hR hT hS ⊢
 simp only[go_sem]
 refine cO rfl Om ?_
 rintro _ rfl
 cases hr:Src.Ab p
 ·rw[if_pos hr] at hz
  subst hz
  exact Ma
 rw[if_neg (by rw[hr];decide)] at hz
 have h1:1≤p.funcs.length:=by unfold Src.Ab at hr;simp at hr;exact hr.1.1.1
 simp only[go_sem]
 refine er rfl (by simp only[go_sem];exact hS h1) ?_
 rintro _ rfl
 by_cases hs:Src.rK p=0
 ·rw[if_neg (by simp[hs])] at hz
  subst hz
  simp only[go_sem,hs]
  refine cO rfl Ov ?_
  exact Nu
 ·rw[if_pos hs] at hz
  subst hz
  have hsi:¬(Src.rK p:Int)=0:=a6
  simp only[go_sem,hsi]
end
end
end Go.Proofs.YtphohejoiocikaaGreatDoor

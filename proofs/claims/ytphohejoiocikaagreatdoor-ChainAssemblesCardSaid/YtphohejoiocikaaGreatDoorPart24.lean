/- A part of the proof; no conditions. -/
import Derived.Test.YtphohejoiocikaaGreatDoorPart23
import Derived.Lib.LaidTab
import Derived.Lib.LaidU8
import Derived.OpenShut
import Derived.Laws.IdiomArrays
import Derived.Test.YtphohejoiocikaaGreatDoorTie
import Derived.Test.YtphohejoiocikaaGreatDoorCards
set_option linter.unusedSimpArgs false
set_option linter.unusedVariables false
set_option maxHeartbeats 64000000
set_option maxRecDepth 100000
namespace Go.Proofs.YtphohejoiocikaaGreatDoor
section
attribute [local congr] Go.Am.ite_cc
open Go Go.Am Go.Asm
open Go.Src (aY ae takeN Ex Stm RQ isR ah bg kM kE rem nR fR hR fsR pR)
section
def FI (vs:List Str) (ars:List (Str×Int)) (f:RQ (List Src.Fn)):RQ Src.Prog:=(⟨vs,ars,f.1⟩,f.2)
def prE (ts:List Src.Tok) (h:RQ (List Str×List (Str×Int))):RQ Src.Prog:=FI h.1.1 h.1.2 (fsR ts (kE ts) ([],ah ts [102,117,110,99] h.2))
variable {ts:List Src.Tok}
theorem zA (hnum:∀t∈ts,t.num≤4294967295) {k:Nat}{q:Nat×Bool}:(bg ts k q).1.num≤4294967295:=by
 unfold bg
 split
 ·cases h:ts[q.1]? with
  |none=>simp[kM]
  |some t=>exact hnum t (l4 h)
 ·simp[kM]
theorem FJ (hl:ts.length≤100000) (hnum:∀t∈ts,t.num≤4294967295):iX 30 [] ts (0,false) (pR ts) cz:=by
 intro B g ob hB hf ho
 obtain⟨p,hp⟩:∃p,pR ts=p:=⟨_,rfl⟩
 rw[hp]
 refine ck.toR (hdM B [125] Tryz.func30 rfl [.cell 2 39] N7 hf fun b₀ β0 s0 w0=>?_)
 have n1:=nlo hB
 have n2:=nhi hB
 have hin:InF B g ob g ob:=InF.refl
 have hf1:=hf
 replace hp:prE ts (hR ts (kE ts) (([],[]),0,false))=p:=hp
 simp only[go_sem,n1,n2]
 refine jQ _ (((ft (t:=3) (o:=B+3) (b:=B+17) (j:=0) (sz:=1) (off:=0) (cells:=[.d .nsl,.d .nsl,.d .nsl]) N4 N4 rfl a6).trans
   (ft (t:=3) (o:=B+3) (b:=B+43) (j:=1) (sz:=2) (off:=0) (cells:=[.osl (B+17) (g (B+17)+1) 1 0 0,.d .nsl,.d .nsl]) Ox Ox rfl a6)).trans
   (ft (t:=3) (o:=B+3) (b:=B+57) (j:=2) (sz:=5) (off:=0) (cells:=[.osl (B+17) (g (B+17)+1) 1 0 0,.osl (B+43) (g (B+43)+1) 2 0 0,.d .nsl]) Ox Ox rfl a6))
  (fun z st=>∃(j:Nat) (r:RQ (List Str×List (Str×Int))),z=mea ts r.2∧r.2.1≤ts.length∧r.1.1.length≤r.2.1∧r.1.2.length≤r.2.1∧4*rem ts r.2+1≤j∧st.f 0=.one (.ptr 125 (g 125) 0)∧st.f 2=.one (.ptr (B+2) (st.gen (B+2)) 0)∧st.f 3=.one (.ptr (B+3) (st.gen (B+3)) 0)∧(∃a b c,st.obj (B+2)=some [a,b,c])∧
    st.obj (B+3)=some [.osl (B+17) (st.gen (B+17)) 1 0 r.1.1.length,.osl (B+43) (st.gen (B+43)) 2 0 r.1.2.length,.osl (B+57) (st.gen (B+57)) 5 0 0]∧st.obj (B+17)=some (dl r.1.1)∧st.obj (B+43)=some (rh r.1.2)∧st.obj (B+57)=some []∧st.obj 125=some (rdW ts r.2)∧InF B g ob st.gen st.obj∧(∀i,B+78≤i→st.obj i=none)∧
    prE ts (hR ts j r)=p) (mea ts (0,false)) ?_ ?_
 ·simp only[St.claimAt]
  refine⟨kE ts,(([],[]),0,false),rfl,a7,a7,a7,Src.nl a6 _,?_⟩
  simp only[go_sem,n1,n2]
  exact⟨⟨_,_,_,rfl,rfl,rfl⟩,rfl,rfl,ho,(InF.go hin),(fi hf1),hp⟩
 clear hf1 hin hp
 rintro z f g1 ob1 ⟨j,⟨⟨vs,ars⟩,⟨n,v⟩⟩,hz,hn,hvs,hars,hj,q0,q2,q3,⟨a,b,c,o2⟩,o3,o17,o43,o57,o125,hin,hf1,hp⟩
 simp only at hz hn hvs hars hj q0 q2 q3 o2 o3 o17 o43 o57 o125 hin hf1
 obtain⟨j,rfl⟩:∃i,j=i+1:=⟨j-1,a6⟩
 rw[hR] at hp
 have hg:=hin.rd
 have hcv:=mF vs
 have hca:=zg ars
 have o125':=o125
 unfold rdW bN at o125
 cases v
 case' true=>
  rw[if_pos rfl] at hp
  obtain⟨q6,hq6⟩:∃q6:Nat×Bool,q6=(n,true):=⟨_,rfl⟩
  simp only[go_sem,q0,hg,o125,n1,n2]
 case' false=>
  rw[if_neg (c:=(((vs,ars),n,false):RQ (List Str×List (Str×Int))).2.2=true) a7] at hp
  simp only[go_sem,q0,hg,o125,n1,n2]
  refine bF ts (n,false) [118,97,114] aa rfl Oc N8 Oa (fun h=>?_) (fun h=>?_)
  ·rw[if_pos (show isR ts [118,97,114] (((vs,ars),n,false):RQ (List Str×List (Str×Int))).2 from h)] at hp
   have hlt:=Src.cP h a7
   have hr1:rem ts (n+1,false)+1=rem ts (n,false):=Src.fS a7 h
   have hcn:=rB ts hl (n+1,false) hlt
   have hmn:=Src.Df (ts:=ts) (q:=(n+1,false)) hlt
   have hgn:=Src.lI (ts:=ts) (n+1,false)
   have hrn:=Src.fQ (ts:=ts) hgn Src.un
   rcases hnn:nR ts (n+1,false) with⟨ls,q8⟩
   rw[hnn] at hcn hmn hrn
   simp only[hnn] at hp
   simp only at hmn hrn
   have hm9:=Src.bY (ts:=ts) (s:=Src.bz) (q:=q8) (by simp[Src.bz]) hmn.2.1
   have hr9:=Src.iu (ts:=ts) (s:=Src.bz) (q:=q8)
   have hme:mea ts (ah ts Src.bz q8)<mea ts (n,false):=by
    unfold mea
    rw[if_neg (c:=(n,false).2=true) a7]
    split
    ·omega
    ·simp only;omega
   simp only[go_sem,n1,n2,q0]
   refine eE True aQ mixed aa [B+17,125] [([3],[0,1],[],false),([13],[1],[],false),([0],[],[],false),([15],[],[1],false),([14,16],[],[0],false),([3],[0,1],[],false),([18,17],[],[],true)] 2 rfl b0 rfl N7 ?_
   simp only[go_sem]
   (apply az;(case hf=>rfl);(case hg=>first|exact j6|exact⟨_,rfl,by decide,rfl⟩);(case h1=>intro fa ga oa K' hK;simp only[go_sem,n1,n2,q3,o3] at hK ⊢;exact hK))
   (apply az;(case hf=>rfl);(case hg=>first|exact j6|exact⟨_,rfl,by decide,rfl⟩);(case h1=>intro fa ga oa K' hK;simp only[go_sem,n1,n2,q3,o3] at hK ⊢;exact hK))
   (apply az;(case hf=>rfl);(case hg=>first|exact j6|exact⟨_,rfl,by decide,rfl⟩);(case h1=>intro fa ga oa K' hK;simp only[go_sem,q0] at hK ⊢;exact hK))
   refine eF (v:=jR ls) (y:=some (rdW ts q8)) j6 a7 (fun fa ga oa K' hK=>?_) ?_
   ·simp only[go_sem,n1,n2] at hK ⊢
    refine aA (k:=bx K') aa rfl hcn OA (B+78) a6 (fi hf1) N4 ?_
    exact Ni
   refine dj (a:=0) (v:=.one (.osl (B+17) (nxC (apC 9 (g1 (B+17)) 0) (g1 (B+17))) 1 0 (vs.length+ls.length))) (x:=nxC (apC 9 (g1 (B+17)) 0) (g1 (B+17))) (y:=some (dl (vs++ls))) rfl j6 (fun fa ga oa K' hK=>?_) ?_
   ·simp only[go_sem,n1,n2,jR,o17,hcv,aJ,b7] at hK ⊢
    have e1:List.take vs.length (dl vs)++List.map C.d (List.map (fun s=>([D.str s]:List D)) ls).flatten=dl (vs++ls):=by
     rw[j4 a6,vJ]
     simp[dl]
    exact NQ
   (apply az;(case hf=>rfl);(case hg=>first|exact j6|exact⟨_,rfl,by decide,rfl⟩);(case h1=>intro fa ga oa K' hK;simp only[go_sem,n1,n2,q3,o3] at hK ⊢;exact hK))
   refine eG rfl j6 ?_
   intro K' hK'
   simp only[go_sem,n1,n2,o3]
   refine hK' _ ?_
   clear hK' K'
   simp only[go_sem,n1,n2,q0]
   refine aE ts q8 [59] aa rfl (by simp only[go_sem,n1,n2,hg]) N4 a6 (B+78) a6 (fi hf1) ?_
   rw[show ([59]:Str)=Src.bz from rfl]
   simp only[go_sem,n1,n2]
   refine ar (mea ts (ah ts Src.bz q8)) (by rw[hz];exact hme) ⟨j,((vs++ls,ars),ah ts Src.bz q8),rfl,hm9.2,by simp only[c9];omega,by simp only;omega,by simp only;omega,?_⟩
   simp only[go_sem,n1,n2,q0,q2,q3,c9]
   exact⟨⟨_,_,_,o2⟩,o43,o57,(InF.go hin),(fi hf1),hp⟩
  rw[if_neg (show ¬isR ts [118,97,114] (((vs,ars),n,false):RQ (List Str×List (Str×Int))).2 from h)] at hp
  simp only[go_sem,n1,n2,q0]
  refine bF ts (n,false) [97,114,114,97,121] aa rfl Oc N8 Oa (fun h=>?_) (fun h=>?_)
  ·rw[if_pos (show isR ts [97,114,114,97,121] (((vs,ars),n,false):RQ (List Str×List (Str×Int))).2 from h)] at hp
   have hlt:=Src.cP h a7
   have hr1:rem ts (n+1,false)+1=rem ts (n,false):=Src.fS a7 h
   simp only[go_sem,n1,n2,q0]
   refine aA aa rfl (gG ts (n+1,false) 1 a8 Oa) Ol (B+78) a6 (fi hf1) N4 ?_
   have hm1:=Src.kf (ts:=ts) (k:=1) a8 (q:=(n+1,false)) hlt
   have hr2:=Src.nM (ts:=ts) (k:=1) a8 (q:=(n+1,false))
   rcases ht:bg ts 1 (n+1,false) with⟨t,q4⟩
   rw[ht] at hm1 hr2
   simp only[ht] at hp
   simp only at hm1 hr2
   have hm2:=Src.bY (ts:=ts) (s:=[91]) (q:=q4) a7 hm1.2
   have hr3:=Src.iu (ts:=ts) (s:=[91]) (q:=q4)
   have hm3:=Src.kf (ts:=ts) (k:=2) a8 (q:=ah ts [91] q4) hm2.2
   have hr4:=Src.nM (ts:=ts) (k:=2) a8 (q:=ah ts [91] q4)
   have hnu:=zA hnum (k:=2) (q:=ah ts [91] q4)
   have hct2:=gG ts (ah ts [91] q4) 2 a8 a6
   rcases ht2:bg ts 2 (ah ts [91] q4) with⟨t2,q5⟩
   rw[ht2] at hm3 hr4 hct2 hnu
   simp only[ht2] at hp
   simp only at hm3 hr4 hnu
   have hm5:=Src.bY (ts:=ts) (s:=[93]) (q:=q5) a7 hm3.2
   have hr5:=Src.iu (ts:=ts) (s:=[93]) (q:=q5)
   have hm6:=Src.bY (ts:=ts) (s:=Src.bz) (q:=ah ts [93] q5) (by simp[Src.bz]) hm5.2
   have hr6:=Src.iu (ts:=ts) (s:=Src.bz) (q:=ah ts [93] q5)
   have hw2:IntKind.i64.wrap (t2.num:Int)=(t2.num:Int):=by rw[wrap_i64] <;> omega
   have hme:mea ts (ah ts Src.bz (ah ts [93] q5))<mea ts (n,false):=by
    unfold mea
    rw[if_neg (c:=(n,false).2=true) a7]
    split
    ·omega
    ·simp only at hm1 ⊢;omega
   unfold fM fB
   simp only[go_sem,n1,n2,q0]
   refine aE ts q4 [91] aa rfl Oc N4 a6 (B+78) a6 (fi hf1) ?_
   simp only[go_sem,n1,n2,q0]
   refine aA aa rfl hct2 Ol (B+78) a6 (fi hf1) N4 ?_
   unfold fM fB
   simp only[go_sem,n1,n2,q0]
   refine aE ts q5 [93] aa rfl Oc N4 a6 (B+78) a6 (fi hf1) ?_
   simp only[go_sem,n1,n2,q0]
   refine aE ts (ah ts [93] q5) [59] aa rfl Oc N4 a6 (B+78) a6 (fi hf1) ?_
   rw[show ([59]:Str)=Src.bz from rfl]
   simp only[go_sem,n1,n2,q0,hw2,q3,o3,o43,hca,aJ]
   refine⟨a6,⟨a8,a6⟩,?_⟩
   have e1:List.take (ars.length*2) (rh ars)++[C.d (D.str t.text),C.d (D.int IntKind.i64 ↑t2.num)]=rh (ars++[(t.text,(t2.num:Int))]):=by
    rw[j4 a6]
    simp[rh,arD]
   rw[e1]
   refine ar (mea ts (ah ts Src.bz (ah ts [93] q5))) (by rw[hz];exact hme) ⟨j,((vs,ars++[(t.text,(t2.num:Int))]),ah ts Src.bz (ah ts [93] q5)),rfl,hm6.2,by simp only at hm1 ⊢;omega,by simp only[c9] at hm1 ⊢;simp;omega,by simp only;omega,?_⟩
   simp only[go_sem,n1,n2,q0,q2,q3,c9]
   exact⟨⟨_,_,_,o2⟩,o17,o57,(InF.go hin),(fi hf1),hp⟩
  rw[if_neg (show ¬isR ts [97,114,114,97,121] (((vs,ars),n,false):RQ (List Str×List (Str×Int))).2 from h)] at hp
  obtain⟨q6,hq6⟩:∃q6:Nat×Bool,q6=(n,false):=⟨_,rfl⟩
  simp only[go_sem,n1,n2,q0]
 all_goals
  rw[←hq6] at hp o125'
  have hn6:q6.1≤ts.length:=by rw[hq6];exact hn
  replace hp:FI vs ars (fsR ts (kE ts) ([],ah ts [102,117,110,99] q6))=p:=hp
  refine aE ts q6 [102,117,110,99] aa rfl Oc N8 a6 (B+78) a6 (fi hf1) ?_
  have hm6:=Src.bY (ts:=ts) (s:=[102,117,110,99]) (q:=q6) a7 hn6
  generalize ah ts [102,117,110,99] q6=q7 at hp hm6 ⊢
  simp only[go_sem,n1,n2,q0]
  refine aM (fun z st=>∃(j:Nat) (r:RQ (List Src.Fn)),z=mea ts r.2∧r.2.1≤ts.length∧r.1.length≤r.2.1∧rem ts r.2+1≤j∧st.f 0=.one (.ptr 125 (g 125) 0)∧st.f 2=.one (.ptr (B+2) (st.gen (B+2)) 0)∧st.f 3=.one (.ptr (B+3) (st.gen (B+3)) 0)∧(∃a b c,st.obj (B+2)=some [a,b,c])∧
   st.obj (B+3)=some [.osl (B+17) (st.gen (B+17)) 1 0 vs.length,.osl (B+43) (st.gen (B+43)) 2 0 ars.length,.osl (B+57) (st.gen (B+57)) 5 0 r.1.length]∧st.obj (B+17)=some (dl vs)∧st.obj (B+43)=some (rh ars)∧st.obj (B+57)=some (fnC r.1)∧st.obj 125=some (rdW ts r.2)∧InF B g ob st.gen st.obj∧(∀i,B+78≤i→st.obj i=none)∧
   FI vs ars (fsR ts j r)=p) (mea ts q7) ?_ ?_
  ·refine⟨kE ts,([],q7),rfl,hm6.2,a7,by unfold Src.kE Src.rem;split <;> omega,?_⟩
   simp only[go_sem,n1,n2,q0,q2,q3]
   exact⟨⟨_,_,_,o2⟩,o3,o17,o43,by simpa[fnC] using o57,(InF.go hin),(fi hf1),hp⟩
  clear hf1 hin hp q0 q2 q3 o2 o3 o17 o43 o57 o125 o125' hg hq6
  rintro z f g1 ob1 ⟨j,⟨fs,⟨m,u⟩⟩,hz,hm,hfs,hj,q0,q2,q3,⟨a,b,c,o2⟩,o3,o17,o43,o57,o125,hin,hf1,hp⟩
  simp only at hz hm hfs hj q0 q2 q3 o2 o3 o17 o43 o57 o125 hin hf1
  obtain⟨j,rfl⟩:∃i,j=i+1:=⟨j-1,a6⟩
  rw[fsR] at hp
  have hg:=hin.rd
  have hcf:=BM fs
  have o125':=o125
  unfold rdW bN at o125
  have hfin:∀(s:St) (x y w k:Nat) (l:List Src.Fn),l.length=k→s.gen (B+17)=x→s.gen (B+43)=y→s.gen (B+57)=w→s.obj (B+17)=some (dl vs)→s.obj (B+43)=some (rh ars)→s.obj (B+57)=some (fnC l)→fg B s [.agg [.osl (B+17) x 1 0 vs.length,.osl (B+43) y 2 0 ars.length,.osl (B+57) w 5 0 k]] [cz ⟨vs,ars,l⟩]:=fun s x y w k l e0 e1 e2 e3 e4 e5 e6=>
   ⟨_,_,rfl,.agg (xs:=[.sl (vs.map fun s=>[.str s]),.sl (ars.map arD),.sl (l.map fnD)]) rfl (fun i e he=>by
    match i,he with
    |0,he=>cases he;exact⟨_,rfl,vI a6 e1 e4 rfl⟩
    |1,he=>cases he;exact⟨_,rfl,Fq a6 e2 e5 rfl⟩
    | 2,he=>cases he;exact⟨_,rfl,Jv a6 e3 e6 e0⟩),rfl⟩
  cases u with
  |true=>
    rw[if_pos rfl] at hp
    simp only[go_sem,q0,q2,q3,hg,o2,o3,o125,n1,n2]
    refine⟨_,al.refl _,?_⟩
    simp only[go_sem,q2,n1,n2]
    exact InF.retW (r:=(⟨vs,ars,fs⟩,m,true)) (enc:=cz) (InF.go hin) hp.symm N8 (hfin _ _ _ _ _ fs rfl rfl rfl rfl O0 O1 (by simp only[go_sem,n1,n2,o57])) rfl
  |false=>
    rw[if_neg (c:=((fs,m,false):RQ (List Src.Fn)).2.2=true) a7] at hp
    simp only at hp
    have hcf1:=JB hl (q:=(m,false)) hm
    have hmf:=Src.KY (ts:=ts) (q:=(m,false)) hm
    have hgf:=Src.Bn (ts:=ts) (m,false)
    have hgo:=uK (ts:=ts) rfl hm hgf Src.Bo hmf.2
    rcases he:fR ts (m,false) with⟨⟨fx,fp,fl,fw,fb⟩,q8⟩
    rw[he] at hcf1 hmf hgo
    simp only[he] at hp
    simp only at hmf hgo
    simp only[go_sem,q0,hg,o125,n1,n2]
    refine eE True aQ mixed aa [125,B+56,B+57] [([3],[0,1,2],[],false),([52],[0,1],[],false),([0],[],[],false),([54],[],[0],false),([55],[],[1],false),([53,56],[],[2],false),([3],[0,1,2],[],false),([58,57],[],[],true)] 3 rfl b0 rfl N7 ?_
    simp only[go_sem]
    (apply az;(case hf=>rfl);(case hg=>first|exact j6|exact⟨_,rfl,by decide,rfl⟩);(case h1=>intro fa ga oa K' hK;simp only[go_sem,n1,n2,q3,o3] at hK ⊢;exact hK))
    (apply az;(case hf=>rfl);(case hg=>first|exact j6|exact⟨_,rfl,by decide,rfl⟩);(case h1=>intro fa ga oa K' hK;simp only[go_sem,n1,n2,q3,o3] at hK ⊢;exact hK))
    (apply az;(case hf=>rfl);(case hg=>first|exact j6|exact⟨_,rfl,by decide,rfl⟩);(case h1=>intro fa ga oa K' hK;simp only[go_sem,q0] at hK ⊢;exact hK))
    refine eF (v:=fnV ⟨fx,fp,fl,fw,fb⟩) (y:=some (rdW ts q8)) j6 a7 (fun fa ga oa K' hK=>?_) ?_
    ·simp only[go_sem,n1,n2] at hK ⊢
     refine aA (k:=bx K') aa rfl hcf1 OA (B+78) a6 (fi hf1) N8 ?_
     exact Ni
    (apply dj;(case hf=>rfl);(case hg=>first|exact j6|exact⟨_,rfl,by decide,rfl⟩);(case h1=>intro fa ga oa K' hK;simp only[go_sem,fnV,fnD] at hK ⊢;exact hK))
    refine dj (a:=2) (v:=.one (.osl (B+57) (nxC (apC 110 (g1 (B+57)) 0) (g1 (B+57))) 5 0 (fs.length+1))) (x:=nxC (apC 110 (g1 (B+57)) 0) (g1 (B+57))) (y:=some (fnC (fs++[⟨fx,fp,fl,fw,fb⟩]))) rfl j6 (fun fa ga oa K' hK=>?_) ?_
    ·simp only[go_sem,n1,n2,o57,aJ,b7,hcf] at hK ⊢
     have e1:List.take (fs.length*5) (fnC fs)++(fnD ⟨fx,fp,fl,fw,fb⟩).map C.d=fnC (fs++[⟨fx,fp,fl,fw,fb⟩]):=by
      rw[j4 a6,BO,BN]
     simp only[fnD,j8,n0] at e1
     rw[e1]
     exact⟨a6,⟨a8,a6⟩,hK⟩
    (apply az;(case hf=>rfl);(case hg=>first|exact j6|exact⟨_,rfl,by decide,rfl⟩);(case h1=>intro fa ga oa K' hK;simp only[go_sem,n1,n2,q3,o3] at hK ⊢;exact hK))
    refine eG rfl j6 ?_
    intro K' hK'
    simp only[go_sem,n1,n2,o3]
    refine hK' _ ?_
    clear hK' K'
    simp only[go_sem,n1,n2,q0]
    refine cy b0 ?_
    obtain⟨m8,u8⟩:=q8
    simp only at hmf hgo hp
    cases u8 with
    |true=>
      rw[if_pos (.inl rfl)] at hp
      simp only[go_sem,n1,n2,hg,q0,q2,q3,o2,o3,rdW,bN,b7]
      refine⟨_,al.refl _,?_⟩
      simp only[go_sem,q2,n1,n2]
      exact InF.retW (ts:=ts) (p:=p) (r:=(⟨vs,ars,fs++[Src.Fn.mk fx fp fl fw fb]⟩,m8,true)) (enc:=cz) (InF.go hin) hp.symm ON (hfin _ _ _ _ _ (fs++[Src.Fn.mk fx fp fl fw fb]) a7 N4 N4 N4 O0 O1 N4) rfl
    |false=>
      by_cases hml:m8=ts.length
      ·subst hml
       rw[if_pos (.inr rfl)] at hp
       simp only[go_sem,n1,n2,hg,q0,q2,q3,o2,o3,rdW,bN,b7]
       refine⟨_,al.refl _,?_⟩
       simp only[go_sem,q2,n1,n2]
       exact InF.retW (ts:=ts) (p:=p) (r:=(⟨vs,ars,fs++[Src.Fn.mk fx fp fl fw fb]⟩,ts.length,false)) (enc:=cz) (InF.go hin) hp.symm ON (hfin _ _ _ _ _ (fs++[Src.Fn.mk fx fp fl fw fb]) a7 N4 N4 N4 O0 O1 N4) rfl
      ·have hmi:¬(m8:Int)=(ts.length:Int):=a6
       have hgo2:=hgo.2 rfl
       have hm9:=Src.bY (ts:=ts) (s:=[102,117,110,99]) (q:=(m8,false)) a7 hmf.2
       have hr9:=Src.iu (ts:=ts) (s:=[102,117,110,99]) (q:=(m8,false))
       have hj8:rem ts (ah ts [102,117,110,99] (m8,false))+1≤j:=by
        unfold Src.rem at hj hr9
        rw[if_neg (c:=(m,false).2=true) a7] at hj
        unfold Src.rem
        rw[if_neg (c:=(m8,false).2=true) a7] at hr9
        simp only at hj hr9
        omega
       have hme:mea ts (ah ts [102,117,110,99] (m8,false))<mea ts (m,false):=by
        unfold mea
        rw[if_neg (c:=(m,false).2=true) a7]
        split
        ·omega
        ·simp only at hm9 ⊢;omega
       rw[if_neg (fun x=>x.elim (fun x=>by cases x) hml)] at hp
       simp only[go_sem,n1,n2,hg,q0,rdW,bN,b7,hmi]
       refine aE ts (m8,false) [102,117,110,99] aa rfl Oc ON Oa (B+78) a6 (fi hf1) ?_
       simp only[go_sem,n1,n2]
       refine ar (mea ts (ah ts [102,117,110,99] (m8,false))) (by rw[hz];exact hme) ⟨j,(fs++[Src.Fn.mk fx fp fl fw fb],ah ts [102,117,110,99] (m8,false)),rfl,hm9.2,by simp only[c9] at hm9 ⊢;simp;omega,hj8,?_⟩
       simp only[go_sem,n1,n2,q0,q2,q3,o17,o43,c9,e8,n9]
       exact⟨⟨_,_,_,o2⟩,rfl,(InF.go hin),(fi hf1),hp⟩
end
end
section
attribute [local congr] Go.Am.ite_cc
open Go Go.Am Go.Asm
open Go.Src (RQ rem)
theorem vW {q:Nat×Bool}{ts:List Src.Tok}{g:Nat→Nat}{ob:Obs} (src:Str) (ho:ob 125=some (rdW ts q)) :
  dK Tryz.prog 31 [.one (.ptr 125 (g 125) 0),sv src] g ob (fun r g' ob'=>r=iv .i64 (pe ts src.length q.1:Nat)∧g'=g∧ob'=ob):=by
 obtain⟨n,w⟩:=q
 show dK Tryz.prog 31 _ g ob (fun r g' ob'=>r=iv .i64 (pe ts src.length n:Nat)∧g'=g∧ob'=ob)
 generalize hz:pe ts src.length n=z
 refine hdF 9000 Tryz.func31 rfl [4] ?_
 unfold rdW bN at ho
 unfold pe at hz
 have hn0:(0:Int)≤(n:Int):=a6
 simp only[go_sem]
 refine bS b0 ?_
 by_cases hlt:n<ts.length
 case neg=>
  exact Nt
 have hlti:(n:Int)<(ts.length:Int):=a6
 obtain⟨t,ht⟩:=getq hlt
 have htg:=lL ht
 rw[ht] at hz
 simp only at hz
 subst hz
 simp only[go_sem,ho,b7,hlti]
 exact NF
end
section
attribute [local congr] Go.Am.ite_cc
open Go Go.Am Go.Asm
theorem te (s w:Str) (n:Nat) (hn:n≤s.length) (hs:s.length≤1000000) (hw:w.length≤1000000):ap Tryz.prog 92 [sv s,iv .i64 n,sv w] (· = bv (w.isPrefixOf (s.drop n))):=by
 refine hdR Tryz.func92 rfl [.tmp 6] fun g=>?_
 generalize hz:w.isPrefixOf (s.drop n)=z
 have hwr:IntKind.i64.wrap ((n:Int)+(w.length:Int))=((n+w.length:Nat):Int):=by rw[wrap_i64 _ a6 a6];omega
 by_cases h:n+w.length≤s.length
 ·have hi:((n+w.length:Nat):Int)≤(s.length:Int):=a6
  simp only[go_sem,hwr,hi]
  refine⟨a6,h,?_⟩
  rw[←hz,J8,J4,G1,decide_eq_true_iff,E1,J5]
  exact⟨fun h=>h.symm,fun h=>h.symm⟩
 ·have hi:¬((n+w.length:Nat):Int)≤(s.length:Int):=a6
  obtain rfl:z=false:=by
   rw[←hz]
   cases hp:w.isPrefixOf (s.drop n) with
   |false=>rfl
   |true=>
     have:=(E1.1 hp).length_le
     rw[r9] at this
     omega
  simp only[go_sem,hwr,hi]
end
end Go.Proofs.YtphohejoiocikaaGreatDoor
namespace Go.Src
section
attribute [local congr] Go.Am.ite_cc
open Go.Asm (Str)
def cF:Nat→Str→Nat
 |0,_=>0
 |_+1,[]=>0
 |n+1,c::r=>if c=32∨c=9∨c=10 then cF n r+1 else if c=47∧r.head? = some 47 then cF n ((c::r).dropWhile (· != 10))+((c::r).takeWhile (· != 10)).length else 0
end
end Go.Src
namespace Go.Proofs.YtphohejoiocikaaGreatDoor
section
attribute [local congr] Go.Am.ite_cc
open Go Go.Am Go.Asm
open Go.Src (cF)
theorem vV {P:UInt8→Bool}:∀l:Str,l.drop (l.takeWhile P).length=l.dropWhile P
 |[]=>rfl
 |a::l=>by
   have ih:=vV (P:=P) l
   cases h:P a <;> simp[B6,LA,h,ih]
theorem zx (s:Str) (n:Nat) (hn:n≤s.length) (hs:s.length≤1000000):ap Tryz.prog 53 [sv s,iv .i64 n] (· = iv .i64 (n+cF (s.length+1) (s.drop n):Nat)):=by
 refine hdP Tryz.func53 rfl [4] fun g=>?_
 obtain⟨p,hp⟩:∃p,n+cF (s.length+1) (s.drop n)=p:=⟨_,rfl⟩
 rw[hp]
 simp only[go_sem]
 refine cY (fun k st=>∃(j m:Nat),k≤m∧m≤s.length∧s.length-m+1≤j∧m+cF j (s.drop m)=p∧st.f 0=sv s∧st.f 1=iv .i64 m) s.length ⟨s.length+1,n,a6,hn,a6,hp,?_⟩ ?_
 ·exact Ma
 rintro k f g1 ob1 hk ⟨j,m,hkm,hm,hj,hpm,q0,q1⟩
 simp only at q0 q1
 obtain⟨j,rfl⟩:∃i,j=i+1:=⟨j-1,a6⟩
 have hm0:(0:Int)≤(m:Int):=a6
 by_cases hlt:m<s.length
 case neg=>
  have hmi:¬(m:Int)<(s.length:Int):=a6
  rw[l6 a6,cF] at hpm
  obtain rfl:m=p:=a6
  simp only[go_sem,q0,q1,hmi]
 have hmi:(m:Int)<(s.length:Int):=a6
 obtain⟨c,hc⟩:=getq hlt
 have hd:s.drop m=c::s.drop (m+1):=by rw[z7 hlt];congr 1;rw[p7 hlt] at hc;exact B3 hc
 rw[hd,cF] at hpm
 have hw:=ag (k:=m) a6
 have hn8:∀x:UInt8,c≠x→¬(c.toNat:Int)=(x.toNat:Int):=fun x hx h=>hx (J0.1 a6)
 have hblank:(c=32∨c=9∨c=10)→m+1+cF j (s.drop (m+1))=p:=fun hb=>by rw[if_pos hb] at hpm;omega
 by_cases h32:c=32
 ·have i1:(c.toNat:Int)=32:=by rw[h32];rfl
  simp only[go_sem,q0,q1,hmi,hm0,hc,i1,hw]
  refine bb a6 ⟨j,m+1,a6,a6,a6,hblank (.inl h32),?_⟩
  exact Nf
 have i1:¬(c.toNat:Int)=32:=hn8 32 h32
 by_cases h9:c=9
 ·have i2:(c.toNat:Int)=9:=by rw[h9];rfl
  simp only[go_sem,q0,q1,hmi,hm0,hc,i1,i2,hw]
  refine bb a6 ⟨j,m+1,a6,a6,a6,hblank (.inr (.inl h9)),?_⟩
  exact Nf
 have i2:¬(c.toNat:Int)=9:=hn8 9 h9
 by_cases h10:c=10
 ·have i3:(c.toNat:Int)=10:=by rw[h10];rfl
  simp only[go_sem,q0,q1,hmi,hm0,hc,i1,i2,i3,hw]
  refine bb a6 ⟨j,m+1,a6,a6,a6,hblank (.inr (.inr h10)),?_⟩
  exact Nf
 have i3:¬(c.toNat:Int)=10:=hn8 10 h10
 rw[if_neg (by simp[h32,h9,h10])] at hpm
 simp only[go_sem,q0,q1,hmi,hm0,hc,i1,i2,i3]
 refine hY rfl (by simp only[go_sem,q0,q1];exact te s [47,47] m hm hs a8) (by simp only[go_sem,q0,q1];rfl) ?_
 rintro _ rfl
 rw[hd]
 have hpre:List.isPrefixOf [47,47] (c::s.drop (m+1))=decide (c=47∧(s.drop (m+1)).head? = some 47):=by
  cases hq:s.drop (m+1) with
  |nil=>simp[List.isPrefixOf]
  |cons d r=>simp only[List.isPrefixOf,List.head?_cons,l9,Bool.and_true];rw[G1,l5,decide_eq_true_iff,D1,D1];exact⟨fun h=>⟨h.1.symm,h.2.symm⟩,fun h=>⟨h.1.symm,h.2.symm⟩⟩
 rw[hpre]
 by_cases h47:c=47∧(s.drop (m+1)).head? = some 47
 case neg=>
  rw[if_neg h47] at hpm
  obtain rfl:m=p:=a6
  simp only[go_sem,s6 h47,q0,q1]
 rw[if_pos h47] at hpm
 simp only[go_sem,w9 h47,q0,q1]
 rw[←hd] at hpm
 obtain⟨e,he⟩:∃e,m+((s.drop m).takeWhile (· != 10)).length=e:=⟨_,rfl⟩
 have hel:e≤s.length:=by
  have:=(C1 (p:=(· != (10:UInt8))) (l:=s.drop m)).length_le
  rw[r9] at this
  omega
 have hme:m+1≤e:=by
  rw[hd,F9 (by simpa using h10),e8] at he
  omega
 have hde:s.drop e=(s.drop m).dropWhile (· != 10):=by
  rw[←he,←C6,vV]
 have hpe:e+cF j (s.drop e)=p:=by rw[hde];omega
 refine cY (fun i st=>m+i≤s.length∧m+i+((s.drop (m+i)).takeWhile (· != 10)).length=e∧st.f 0=sv s∧st.f 1=iv .i64 (m+i:Nat)) (s.length-m) ⟨hm,he,?_⟩ ?_
 ·exact Nf
 clear q0 q1
 rintro i f g1 ob1 hi ⟨hmi2,hie,q0,q1⟩
 simp only at q0 q1
 have hw2:=ag (k:=m+i) a6
 have hq0:(0:Int)≤((m+i:Nat):Int):=a6
 have hend:m+i=e→m+i+cF j (s.drop (m+i))=p:=fun h=>by rw[h];exact hpe
 by_cases hlt2:m+i<s.length
 case neg=>
  have hli:¬((m+i:Nat):Int)<(s.length:Int):=a6
  rw[l6 a6] at hie
  simp only[List.takeWhile_nil,n9] at hie
  simp only[go_sem,q0,q1,hli]
  refine bb a6 ⟨j,m+i,a6,a6,a6,hend a6,?_⟩
  exact Nf
 have hli:((m+i:Nat):Int)<(s.length:Int):=a6
 obtain⟨d,hdd⟩:=getq hlt2
 have hd2:s.drop (m+i)=d::s.drop (m+i+1):=by rw[z7 hlt2];congr 1;rw[p7 hlt2] at hdd;exact B3 hdd
 by_cases hd10:d=10
 ·have i4:(d.toNat:Int)=10:=by rw[hd10];rfl
  rw[hd2,H7 (by simp[hd10])] at hie
  simp only[n9] at hie
  simp only[go_sem,q0,q1,hli,hq0,hdd,i4]
  refine bb a6 ⟨j,m+i,a6,a6,a6,hend a6,?_⟩
  exact Nf
 ·have i4:¬(d.toNat:Int)=10:=fun h=>hd10 (J0.1 (by simpa using(by omega:d.toNat=10)))
  rw[hd2,F9 (by simpa using hd10),e8] at hie
  simp only[go_sem,q0,q1,hli,hq0,hdd,i4,hw2]
  refine bb a6 ⟨a6,by rw[show m+(i+1)=m+i+1 from rfl];omega,?_⟩
  simp only[go_sem,q0,q1]
  rfl
end
section
attribute [local congr] Go.Am.ite_cc
open Go Go.Am Go.Asm
open Go.Src (eV)
theorem Cc:ap Tryz.prog 98 [] (· = eS eV):=by
 refine hdP Tryz.func98 rfl [0] fun g=>?_
 simp only[go_sem]
 exact⟨_,⟨_,jN (L:=eV) rfl rfl rfl,rfl⟩,rfl⟩
theorem rA {P:UInt8→Bool}:∀(l:Str),(l.takeWhile P).length<l.length→∃c,l[(l.takeWhile P).length]? = some c∧P c=false
 |[],h=>absurd h a7
 |a::l,h=>by
   cases hp:P a with
   |false=>rw[H7 (by simp[hp])];exact⟨a,rfl,hp⟩
   |true=>
     rw[F9 hp] at h ⊢
     obtain⟨c,h1,h2⟩:=rA l (by simpa using h)
     exact⟨c,by simpa using h1,h2⟩
theorem uF {P:UInt8→Bool}:∀(l:Str) (i:Nat),i<(l.takeWhile P).length→∃c,l[i]? = some c∧(l.takeWhile P)[i]? = some c∧P c=true
 |[],i,h=>absurd h a7
 |a::l,i,h=>by
   cases hp:P a with
   |false=>rw[H7 (by simp[hp])] at h;exact absurd h a7
   |true=>
     rw[F9 hp] at h ⊢
     cases i with
     |zero=>exact⟨a,rfl,rfl,hp⟩
     |succ i=>
       obtain⟨c,h1,h2,h3⟩:=uF l i (by simpa using h)
       exact⟨c,by simpa using h1,by simpa using h2,h3⟩
theorem zy (s:Str) (n:Nat) (hn:n≤s.length) (hs:s.length≤1000000):ap Tryz.prog 94 [sv s,iv .i64 n] (fun r=>∃(x:Nat) (b:Bool),r=.tup [iv .u64 x,iv .i64 (n+((s.drop n).takeWhile digit).length:Nat),bv b]∧b=decide (4294967295<dy ((s.drop n).takeWhile digit))∧(b=false→x=dy ((s.drop n).takeWhile digit))):=by
 refine hdR Tryz.func94 rfl [.tmp 4,.tmp 5,.tmp 6] fun g=>?_
 have hlen:((s.drop n).takeWhile digit).length≤s.length-n:=by
  have:=(C1 (p:=digit) (l:=s.drop n)).length_le
  rwa [r9] at this
 obtain⟨ds,hds⟩:∃ds,(s.drop n).takeWhile digit=ds:=⟨_,rfl⟩
 have hget:=uF (P:=digit) (s.drop n)
 have hstop:=rA (P:=digit) (s.drop n)
 rw[hds] at hlen hget hstop ⊢
 simp only[go_sem]
 refine cY (fun i st=>∃(x:Nat) (b:Bool),i≤ds.length∧x≤4294967295∧(b=false→x=dy (ds.take i))∧(b=true→4294967295<dy (ds.take i))∧st.f 0=sv s∧st.f 1=iv .i64 (n+i:Nat)∧st.f 7=iv .u64 x∧st.f 8=bv b) (s.length-n) ⟨0,false,a6,a6,fun _=>rfl,fun h=>OY,?_⟩ ?_
 ·exact Ma
 rintro i f g1 ob1 hi ⟨x,b,hid,hx,hb1,hb2,q0,q1,q7,q8⟩
 simp only at q0 q1 q7 q8
 have hq0:(0:Int)≤((n+i:Nat):Int):=a6
 by_cases hlt:n+i<s.length
 case neg=>
  have hli:¬((n+i:Nat):Int)<(s.length:Int):=a6
  obtain rfl:i=ds.length:=by
   refine D0 fun hne=>?_
   obtain⟨c,h1,_⟩:=hget i a6
   have:=(j0.1 h1).1
   rw[r9] at this
   omega
  rw[G8] at hb1 hb2
  simp only[go_sem,q0,q1,q7,q8,hli]
  refine⟨_,⟨_,⟨_,_,rfl,cc _,_,_,rfl,cc _,_,_,rfl,cc _,rfl⟩,rfl⟩,x,b,rfl,?_,hb1⟩
  cases b with
  |false=>have:=hb1 rfl;exact(s6 a6).symm
  |true=>exact(w9 (hb2 rfl)).symm
 have hli:((n+i:Nat):Int)<(s.length:Int):=a6
 obtain⟨c,hc⟩:=getq hlt
 have hcd:(s.drop n)[i]? = some c:=by rw[A4];exact hc
 simp only[go_sem,q0,q1,hli,hq0,hc]
 refine aV rfl (by simp only[go_sem];exact fK c) ?_
 rintro _ rfl
 cases hdc:digit c
 ·have hie:i=ds.length:=by
   refine D0 fun hne=>?_
   obtain⟨c',h1,_,h3⟩:=hget i a6
   rw[hcd] at h1
   cases h1
   rw[hdc] at h3
   cases h3
  subst hie
  rw[G8] at hb1 hb2
  simp only[go_sem,q0,q1,q7,q8]
  refine⟨_,⟨_,⟨_,_,rfl,cc _,_,_,rfl,cc _,_,_,rfl,cc _,rfl⟩,rfl⟩,x,b,rfl,?_,hb1⟩
  cases b with
  |false=>have:=hb1 rfl;exact(s6 a6).symm
  |true=>exact(w9 (hb2 rfl)).symm
 have hil:i<ds.length:=by
  refine D0 fun hne=>?_
  obtain rfl:i=ds.length:=a6
  obtain⟨c',h1,h3⟩:=hstop (by rw[r9];omega)
  rw[hcd] at h1
  cases h1
  rw[hdc] at h3
  cases h3
 obtain⟨c',h1,h2,_⟩:=hget i hil
 rw[hcd] at h1
 cases h1
 have hdt:=qv h2
 have hcn:48≤c.toNat∧c.toNat≤57:=kg.1 hdc
 have w1:IntKind.u8.wrap ((c.toNat:Int)-48)=((c.toNat-48:Nat):Int):=by rw[IntKind.wrap_u8];omega
 have w2:IntKind.u64.wrap ((x:Int)*10)=((x*10:Nat):Int):=by rw[IntKind.wrap_u64];omega
 have w3:IntKind.u64.wrap ((c.toNat-48:Nat):Int)=((c.toNat-48:Nat):Int):=by rw[IntKind.wrap_u64];omega
 have w4:IntKind.u64.wrap (((x*10:Nat):Int)+((c.toNat-48:Nat):Int))=((x*10+(c.toNat-48):Nat):Int):=by rw[IntKind.wrap_u64];omega
 have hw:=ag (k:=n+i) a6
 by_cases hgr:4294967295<x*10+(c.toNat-48)
 ·have hgi:(4294967295:Int)<((x*10+(c.toNat-48):Nat):Int):=a6
  simp only[go_sem,q0,q1,q7,q8,hq0,hli,hc,w1,w2,w3,w4,hgi,hw]
  refine bb a6 ⟨0,true,a6,a6,fun h=>OY,fun _=>?_,?_⟩
  ·cases b with
   |false=>have:=hb1 rfl;omega
   |true=>have:=hb2 rfl;omega
  ·simp only[go_sem,q0,q1]
   rfl
 ·have hgi:¬(4294967295:Int)<((x*10+(c.toNat-48):Nat):Int):=a6
  simp only[go_sem,q0,q1,q7,q8,hq0,hli,hc,w1,w2,w3,w4,hgi,hw]
  refine bb a6 ⟨x*10+(c.toNat-48),b,a6,a6,fun h=>?_,fun h=>?_,?_⟩
  ·have:=hb1 h;omega
  ·have:=hb2 h;omega
  ·simp only[go_sem,q0,q1,q8]
   rfl
end
section
attribute [local congr] Go.Am.ite_cc
open Go Go.Am Go.Asm
open Go.Src (eV cE firstT)
def pF (n:Nat):Src.R (Nat×Str×Nat)→AV
 |.ok (k,t,v)=>.tup [fM ⟨k,t,v,n⟩,iv .i64 0]
 |.err e=>.tup [fM ⟨0,[],0,0⟩,iv .i64 (e:Nat)]
theorem cn {s:St}{k v e n:Nat}{t:Str}:qP s [.agg [.d (.int .i64 (k:Nat)),.d (.str t),.d (.int .u32 (v:Nat)),.d (.int .i64 (n:Nat))],iv .i64 (e:Nat)] (.tup [fM ⟨k,t,v,n⟩,iv .i64 (e:Nat)]):=by
 refine⟨_,⟨_,_,rfl,⟨[.int .i64 (k:Nat),.str t,.int .u32 (v:Nat),.int .i64 (n:Nat)],rfl,fun i c hc'=>?_,rfl⟩,_,_,rfl,cc _,rfl⟩,rfl⟩
 match i,hc' with
 |0,hc'=>cases hc';exact⟨_,rfl,.d _⟩
 |1,hc'=>cases hc';exact⟨_,rfl,.d _⟩
 |2,hc'=>cases hc';exact⟨_,rfl,.d _⟩
 |3,hc'=>cases hc';exact⟨_,rfl,.d _⟩
theorem uX (s:Str) (n:Nat) (c:UInt8) (hc:s[n]? = some c) (hn:n<s.length) (hs:s.length≤1000000) (hdc:digit c=true) {x:Src.R (Nat×Str×Nat)} (hx:firstT (s.drop n)=x):ap Tryz.prog 54 [sv s,iv .i64 n] (· = pF n x):=by
 rw[drop_cons hc,dC,if_pos hdc,←drop_cons hc] at hx
 refine hdR Tryz.func54 rfl [.cell 4 101,.tmp 5] fun g=>?_
 have hn0:(0:Int)≤(n:Int):=a6
 have hD:=fK c
 rw[hdc] at hD
 simp only[go_sem,hc,hn0]
 refine aV rfl Ok ?_
 rintro _ rfl
 have hlen:((s.drop n).takeWhile digit).length≤s.length-n:=by
  have:=(C1 (p:=digit) (l:=s.drop n)).length_le
  rwa [r9] at this
 have htk:((s.drop n).takeWhile digit)=(s.drop n).take ((s.drop n).takeWhile digit).length:=(J5.1 (LY _))
 have hN:=zy s n a6 hs
 obtain⟨ds,hds⟩:∃ds,(s.drop n).takeWhile digit=ds:=⟨_,rfl⟩
 rw[hds] at hx hlen htk hN
 simp only[go_sem]
 refine aV rfl Oj ?_
 rintro _ ⟨y,b,rfl,hb,hy⟩
 cases b with
 |true=>
   rw[if_pos (D8 hb.symm)] at hx
   subst hx
   simp only[go_sem]
   exact⟨_,cn (k:=0) (v:=0) (e:=2) (n:=0),rfl⟩
 |false=>
   have hle:=of_decide_eq_false hb.symm
   rw[if_neg hle] at hx
   subst hx
   obtain rfl:=hy rfl
   have w1:IntKind.u32.wrap ((dy ds:Nat):Int)=((dy ds:Nat):Int):=by rw[IntKind.wrap_u32];omega
   have hcut:(s.take (n+ds.length)).drop n=ds:=by rw[J8,J4];exact htk.symm
   simp only[go_sem,w1,hcut]
   exact⟨a6,a6,_,cn (k:=2) (e:=0),rfl⟩
theorem xg (s:Str) (n:Nat) (hc:s[n]? = some 39) (hn:n<s.length) (hs:s.length≤1000000) {z:Src.R (Nat×Str×Nat)} (hz:firstT (s.drop n)=z):ap Tryz.prog 54 [sv s,iv .i64 n] (· = pF n z):=by
 rw[drop_cons hc,dC,if_neg a8,if_pos rfl] at hz
 refine hdR Tryz.func54 rfl [.cell 4 101,.tmp 5] fun g=>?_
 have hn0:(0:Int)≤(n:Int):=a6
 have hD:=fK 39
 rw[show digit 39=false from rfl] at hD
 have hi:(((39:UInt8).toNat:Nat):Int)=39:=rfl
 have w1:IntKind.i64.wrap ((n:Int)+1)=((n+1:Nat):Int):=by rw[wrap_i64] <;> omega
 have w2:IntKind.i64.wrap ((n:Int)+2)=((n+2:Nat):Int):=by rw[wrap_i64] <;> omega
 have w3:IntKind.i64.wrap ((n:Int)+3)=((n+3:Nat):Int):=by rw[wrap_i64] <;> omega
 have p1:(0:Int)≤((n+1:Nat):Int):=a6
 have p2:(0:Int)≤((n+2:Nat):Int):=a6
 simp only[go_sem,hc,hn0]
 refine aV rfl Ok ?_
 rintro _ rfl
 by_cases h2:n+2<s.length
 case neg=>
  have h2i:¬((n+2:Nat):Int)<(s.length:Int):=a6
  have hb:z=.err 3:=by
   rw[←hz]
   match hr:s.drop (n+1) with
   |[]=>rfl
   |[_]=>rfl
   |_::_::_=>have:=congrArg List.length hr;simp at this;omega
  subst hb
  simp only[go_sem,hi,w2,h2i]
  exact MG
 have h2i:((n+2:Nat):Int)<(s.length:Int):=a6
 obtain⟨x,hx⟩:=getq (l:=s) (k:=n+1) a6
 obtain⟨y,hy⟩:=getq h2
 rw[drop_cons hx,drop_cons hy] at hz
 rw[show ma (39::x::y::s.drop (n+2+1))=(if y=39∧32≤x.toNat∧x.toNat≤126∧x≠39∧x≠92 then .ok (2,[39,x,y],x.toNat) else .err 3) from rfl] at hz
 have hcut:(s.take (n+3)).drop n=[39,x,y]:=by
  rw[J8,show n+3-n=3 by omega,drop_cons hc,drop_cons hx,drop_cons hy];rfl
 by_cases e1:y=39
 case neg=>
  have e1i:¬((y.toNat:Nat):Int)=39:=fW (d:=39) e1
  rw[if_neg (fun h=>e1 h.1)] at hz
  subst hz
  simp only[go_sem,hi,w2,h2i,hy,p2,e1i]
  exact MG
 have e1i:((y.toNat:Nat):Int)=39:=by rw[e1];rfl
 by_cases e2:32≤x.toNat
 case neg=>
  have e2i:¬(32:Int)≤((x.toNat:Nat):Int):=a6
  rw[if_neg (fun h=>e2 h.2.1)] at hz
  subst hz
  simp only[go_sem,hi,w1,w2,h2i,hx,hy,p1,p2,e1i,e2i]
  exact MG
 have e2i:(32:Int)≤((x.toNat:Nat):Int):=a6
 by_cases e3:x.toNat≤126
 case neg=>
  have e3i:¬((x.toNat:Nat):Int)≤126:=a6
  rw[if_neg (fun h=>e3 h.2.2.1)] at hz
  subst hz
  simp only[go_sem,hi,w1,w2,h2i,hx,hy,p1,p2,e1i,e2i,e3i]
  exact MG
 have e3i:((x.toNat:Nat):Int)≤126:=a6
 by_cases e4:x=39
 ·have e4i:((x.toNat:Nat):Int)=39:=by rw[e4];rfl
  rw[if_neg (fun h=>h.2.2.2.1 e4)] at hz
  subst hz
  simp only[go_sem,hi,w1,w2,h2i,hx,hy,p1,p2,e1i,e2i,e3i,e4i]
  exact MG
 have e4i:¬((x.toNat:Nat):Int)=39:=fW (d:=39) e4
 by_cases e5:x=92
 ·have e5i:((x.toNat:Nat):Int)=92:=by rw[e5];rfl
  rw[if_neg (fun h=>h.2.2.2.2 e5)] at hz
  subst hz
  simp only[go_sem,hi,w1,w2,h2i,hx,hy,p1,p2,e1i,e2i,e3i,e4i,e5i]
  exact MG
 have e5i:¬((x.toNat:Nat):Int)=92:=fW (d:=92) e5
 rw[if_pos ⟨e1,e2,e3,e4,e5⟩] at hz
 subst hz
 have w5:IntKind.u32.wrap ((x.toNat:Nat):Int)=((x.toNat:Nat):Int):=by have:=x.toNat_lt;rw[IntKind.wrap_u32];omega
 simp only[go_sem,hi,w1,w2,h2i,hx,hy,p1,p2,e1i,e2i,e3i,e4i,e5i]
 refine bS b0 ?_
 simp only[go_sem,w1,w3,hx,p1,w5,hcut]
 exact⟨a6,a6,_,cn (k:=2) (e:=0),rfl⟩
theorem xh {o:bU} (s:Str) (n:Nat) (c:UInt8) (hc:s[n]? = some c) (hn:n<s.length) (hs:s.length≤1000000) (hdc:digit c=false) (h39:c≠39) (hlc:letter c=true) {z:Src.R (Nat×Str×Nat)} (hz:firstT (s.drop n)=z):bu Tryz.prog 5 o 54 [sv s,iv .i64 n] (· = pF n z):=by
 rw[drop_cons hc,dC,if_neg (by simp[hdc]),if_neg h39,if_pos hlc,←drop_cons hc] at hz
 refine hdG Tryz.func54 rfl [.cell 4 101,.tmp 5] fun b₀ β0 s0 w0 g=>?_
 have hn0:(0:Int)≤(n:Int):=a6
 have hD:=fK c
 rw[hdc] at hD
 have hL:=gj c
 rw[hlc] at hL
 have hi:¬((c.toNat:Nat):Int)=39:=fW (d:=39) h39
 have hget:=uF (P:=bQ) (s.drop n)
 have hstop:=rA (P:=bQ) (s.drop n)
 have hlen:((s.drop n).takeWhile bQ).length≤s.length-n:=by
  have:=(C1 (p:=bQ) (l:=s.drop n)).length_le
  rwa [r9] at this
 have htk:((s.drop n).takeWhile bQ)=(s.drop n).take ((s.drop n).takeWhile bQ).length:=(J5.1 (LY _))
 obtain⟨ds,hds⟩:∃ds,(s.drop n).takeWhile bQ=ds:=⟨_,rfl⟩
 rw[hds] at hz hget hstop hlen htk
 have hcut:(s.take (n+ds.length)).drop n=ds:=by rw[J8,J4];exact htk.symm
 simp only[go_sem,hc,hn0]
 refine cO rfl Ok ?_
 rintro _ rfl
 simp only[go_sem,hi]
 refine cO rfl Og ?_
 rintro _ rfl
 simp only[go_sem]
 refine aM (fun m st=>∃i:Nat,m+i=ds.length∧st.f 0=sv s∧st.f 1=iv .i64 n∧st.f 10=iv .i64 (n+i:Nat)∧st.f 4=.one (.ptr 4 (nxC 102 (g 4)) 0)∧st.gen 4=nxC 102 (g 4)∧st.obj 4=some [.d (.int .i64 0),.d (.str []),.d (.int .u32 0),.d (.int .i64 0)]) ds.length ⟨0,rfl,?_⟩ ?_
 ·exact Ma
 rintro m f g' ob ⟨i,hm,q0,q1,q10,q4,g4,o4⟩
 simp only at q0 q1 q10 q4 g4 o4
 have hw:=ag (k:=n+i) a6
 have hp0:(0:Int)≤((n+i:Nat):Int):=a6
 have hend:i=ds.length→False∨True:=fun _=>.inr j6
 by_cases hil:i<ds.length
 ·obtain⟨y,h1,h2,h3⟩:=hget i hil
  rw[A4] at h1
  have hlti:((n+i:Nat):Int)<(s.length:Int):=a6
  simp only[go_sem,q0,q1,q10,hlti,h1,hp0]
  refine cO rfl (by simp only[go_sem];exact gj y) ?_
  rintro _ rfl
  cases hly:letter y
  ·simp only[go_sem,q0,q10,h1,hp0]
   refine cO rfl (by simp only[go_sem];exact fK y) ?_
   rintro _ rfl
   cases hdy:digit y
   ·have h95:(y.toNat:Int)=95:=by
     have:y=95:=by unfold bQ at h3;simpa[hly,hdy] using h3
     rw[this];rfl
    simp only[go_sem,q0,q10,h1,hp0,h95,hw]
    refine ar (m-1) a6 ⟨i+1,a6,?_⟩
    simp only[go_sem,q0,q1,q4,g4,o4]
    rfl
   ·simp only[go_sem,q0,q10,h1,hp0,hw]
    refine ar (m-1) a6 ⟨i+1,a6,?_⟩
    simp only[go_sem,q0,q1,q4,g4,o4]
    rfl
  ·simp only[go_sem,q0,q10,h1,hp0,hw]
   refine ar (m-1) a6 ⟨i+1,a6,?_⟩
   simp only[go_sem,q0,q1,q4,g4,o4]
   rfl
 obtain rfl:i=ds.length:=a6
 have hsub:IntKind.i64.wrap (((n+ds.length:Nat):Int)-(n:Int))=(ds.length:Int):=by rw[wrap_i64] <;> omega
 unfold mb at hz
 by_cases hlt:n+ds.length<s.length
 case' neg=>
  have hlti:¬((n+ds.length:Nat):Int)<(s.length:Int):=a6
  simp only[go_sem,q0,q10,hlti]
 case' pos=>
  have hlti:((n+ds.length:Nat):Int)<(s.length:Int):=a6
  obtain⟨y,h1,h3⟩:=hstop (by rw[r9];omega)
  rw[A4] at h1
  unfold bQ at h3
  have h3':(letter y=false∧digit y=false)∧y≠95:=by
   clear hget hstop
   simpa using h3
  obtain⟨⟨hly,hdy⟩,h95n⟩:=h3'
  have h95:¬(y.toNat:Int)=95:=fW (d:=95) h95n
  have hLy:=gj y
  have hDy:=fK y
  rw[hly] at hLy
  rw[hdy] at hDy
  simp only[go_sem,q0,q1,q10,hlti,h1,hp0]
  refine cO rfl (by simp only[go_sem];exact hLy) ?_
  rintro _ rfl
  simp only[go_sem,q0,q10,h1,hp0]
  refine cO rfl (by simp only[go_sem];exact hDy) ?_
  rintro _ rfl
  simp only[go_sem,q0,q10,h1,hp0,h95]
 all_goals
  by_cases h20:20<ds.length
  ·have h20i:(20:Int)<(ds.length:Int):=a6
   rw[if_pos h20] at hz
   subst hz
   simp only[go_sem,q1,q10,hsub,h20i,q4,g4,o4]
   exact⟨_,cn (k:=0) (v:=0) (e:=2) (n:=0),rfl⟩
  have h20i:¬(20:Int)<(ds.length:Int):=a6
  rw[if_neg h20] at hz
  simp only[go_sem,q1,q10,hsub,h20i]
  refine cT aQ mixed aB [] [([],[],[],false),([0],[],[],false),([1],[],[],false),([10],[],[],false),([123,124,125],[],[],false),([122,126],[],[],true)] 0 rfl b0 rfl a8 ?_
  simp only[go_sem]
  refine aN (v:=eS cE) j6 (fun fa ga oa K' hK=>?_) ?_
  ·simp only[go_sem] at hK ⊢
   refine cO rfl (by simp only[go_sem];exact sX) ?_
   exact Nz
  iterate 3 (apply aN;(case hg=>first|exact j6|exact⟨_,rfl,by decide,rfl⟩);(case h1=>intro fa ga oa K' hK;simp only[go_sem,q0,q1,q10] at hK ⊢;exact hK))
  refine aN (v:=sv ds) j6 (fun fa ga oa K' hK=>?_) ?_
  ·simp only[go_sem,hcut] at hK ⊢
   exact⟨a6,a6,hK⟩
  refine cU j6 ?_
  intro K' hK'
  simp only[go_sem]
  refine cO rfl (by simp only[go_sem];exact Jx cE ds a8) ?_
  rintro _ rfl
  simp only[go_sem]
  refine hK' _ ?_
  clear hK' K'
  by_cases hin:ds∈cE
  ·rw[if_pos hin] at hz
   subst hz
   simp only[go_sem,hin,LK,q0,q1,q10,hcut,q4,g4,o4]
   exact⟨a6,a6,_,cn (k:=3) (v:=0) (e:=0),rfl⟩
  ·rw[if_neg hin] at hz
   subst hz
   simp only[go_sem,hin,LB,q0,q1,q10,hcut,q4,g4,o4]
   exact⟨a6,a6,_,cn (k:=1) (v:=0) (e:=0),rfl⟩
theorem xi (s:Str) (n:Nat) (c:UInt8) (hc:s[n]? = some c) (hn:n<s.length) (hs:s.length≤1000000) (hdc:digit c=false) (h39:c≠39) (hlc:letter c=false) {z:Src.R (Nat×Str×Nat)} (hz:firstT (s.drop n)=z):ap Tryz.prog 54 [sv s,iv .i64 n] (· = pF n z):=by
 rw[drop_cons hc,dC,if_neg (by simp[hdc]),if_neg h39,if_neg (by simp[hlc]),←drop_cons hc] at hz
 refine hdR Tryz.func54 rfl [.cell 4 101,.tmp 5] fun g=>?_
 have hn0:(0:Int)≤(n:Int):=a6
 have hD:=fK c
 rw[hdc] at hD
 have hL:=gj c
 rw[hlc] at hL
 have hi:¬((c.toNat:Nat):Int)=39:=fW (d:=39) h39
 have h24:((eV.length:Nat):Int)=24:=rfl
 have hall:∀t∈eV,t.length≤1000000:=a8
 obtain⟨P,hP⟩:∃P:Str→Bool,(fun t=>t.isPrefixOf (s.drop n))=P:=⟨_,rfl⟩
 rw[hP] at hz
 have hPt:=fun t=>congrFun hP t
 simp only[go_sem,hc,hn0]
 refine aV rfl Ok ?_
 rintro _ rfl
 simp only[go_sem,hi]
 refine aV rfl Og ?_
 rintro _ rfl
 simp only[go_sem]
 refine aV rfl (by simp only[go_sem];exact Cc) ?_
 rintro _ rfl
 unfold eS
 simp only[go_sem]
 refine cY (fun k st=>zR ((eV.drop k).find? P)=z∧st.f 0=sv s∧st.f 1=iv .i64 n∧st.f 11=.one (.d (.sl (eV.map fun s=>[.str s])))∧st.f 12=iv .i64 k∧st.f 4=.one (.ptr 4 (nxC 102 (g 4)) 0)∧st.gen 4=nxC 102 (g 4)∧st.obj 4=some [.d (.int .i64 0),.d (.str []),.d (.int .u32 0),.d (.int .i64 0)]) 24 ⟨hz,?_⟩ ?_
 ·exact Ma
 rintro k f g1 ob1 hk ⟨hf,q0,q1,q11,q12,q4,g4,o4⟩
 simp only at hf q0 q1 q11 q12 q4 g4 o4
 have hw:=ag (k:=k) a6
 by_cases hlt:k<24
 case neg=>
  have hki:¬(k:Int)<24:=a6
  rw[l6 (by show 24≤k;omega)] at hf
  subst hf
  simp only[go_sem,q11,q12,hki,b7,h24,q4,g4,o4]
  exact MG
 have hki:(k:Int)<24:=a6
 obtain⟨t,ht⟩:=getq (l:=eV) (k:=k) hlt
 have hg:=getD_at (f:=fun s:Str=>[D.str s]) ht
 have hB:=te s t n a6 hs (hall t (l4 ht))
 rw[hPt t] at hB
 rw[drop_cons ht,List.find?_cons] at hf
 simp only[go_sem,q0,q1,q11,q12,hki,b7,h24,hg]
 refine aV rfl OG ?_
 rintro _ rfl
 cases hp:P t
 ·rw[hp] at hf
  simp only[go_sem,q12,hw]
  refine bb hlt ⟨hf,?_⟩
  simp only[go_sem,q0,q1,q11,q4,g4,o4]
 ·rw[hp] at hf
  subst hf
  simp only[go_sem,q0,q1,q11,q12,hki,b7,h24,hg,q4,g4,o4]
  exact⟨_,cn (k:=4) (v:=0) (e:=0),rfl⟩
theorem Gh {o:bU} (s:Str) (n:Nat) (hn:n<s.length) (hs:s.length≤1000000):bu Tryz.prog 5 o 54 [sv s,iv .i64 n] (· = pF n (firstT (s.drop n))):=by
 obtain⟨c,hc⟩:=getq hn
 cases hd:digit c with
 |true=>exact(uX s n c hc hn hs hd rfl).toG
 |false=>
   by_cases h39:c=39
   ·subst h39;exact(xg s n hc hn hs rfl).toG
   ·cases hl:letter c with
    |true=>exact xh s n c hc hn hs hd h39 hl rfl
    |false=>exact(xi s n c hc hn hs hd h39 hl rfl).toG
end
section
attribute [local congr] Go.Am.ite_cc
open Go Go.Am Go.Asm
open Go.Src (eV cE firstT cF dU)
theorem ja:∀(j m k:Nat) (s:Str),s.length<m→∃m',(s.drop (cF j s)).length<m'∧dU m k s=dU m' (k+cF j s) (s.drop (cF j s))
 |0,m,k,s,h=>⟨m,by simpa[cF] using h,by simp[cF]⟩
 |j+1,m,k,[],h=>⟨m,by simpa[cF] using h,by simp[cF]⟩
 |j+1,m,k,c::r,h=>by
   obtain⟨m,rfl⟩:∃i,m=i+1:=⟨m-1,a6⟩
   simp only[e8] at h
   rw[cF]
   by_cases hb:c=32∨c=9∨c=10
   ·rw[if_pos hb]
    obtain⟨m',h1,h2⟩:=ja j m (k+1) r a6
    refine⟨m',by rw[G6];exact h1,?_⟩
    rw[dU,if_pos hb,h2,G6,z1 k 1,LD 1]
   rw[if_neg hb]
   by_cases hc:c=47∧r.head? = some 47
   ·rw[if_pos hc]
    have hT:1≤((c::r).takeWhile (· != 10)).length:=by rw[B6,if_pos (by rw[hc.1];rfl)];simp
    obtain⟨m',h1,h2⟩:=ja j m (k+((c::r).takeWhile (· != 10)).length) ((c::r).dropWhile (· != 10)) (by rw[←bO,r9,e8];omega)
    generalize hd:cF j ((c::r).dropWhile (· != 10))=d at h1 h2 ⊢
    rw[←bO,C6,LD _ d] at h1
    refine⟨m',h1,?_⟩
    rw[dU,if_neg hb,if_pos hc,h2,←bO,C6,LD d,z1]
   ·rw[if_neg hc]
    exact⟨m+1,by simpa using h,a7⟩
def Stop (s:Str):Prop:=∀c r,s=c::r→¬(c=32∨c=9∨c=10)∧¬(c=47∧r.head? = some 47)
theorem kj:∀(j:Nat) (s:Str),s.length<j→Stop (s.drop (cF j s))
 |0,s,h=>by omega
 |j+1,[],h=>fun c r e=>by simp at e
 |j+1,c::r,h=>by
   simp only[e8] at h
   rw[cF]
   by_cases hb:c=32∨c=9∨c=10
   ·rw[if_pos hb,G6]
    exact kj j r a6
   rw[if_neg hb]
   by_cases hc:c=47∧r.head? = some 47
   ·rw[if_pos hc]
    have hT:1≤((c::r).takeWhile (· != 10)).length:=by rw[B6,if_pos (by rw[hc.1];rfl)];simp
    have h1:=kj j ((c::r).dropWhile (· != 10)) (by rw[←bO,r9,e8];omega)
    generalize hd:cF j ((c::r).dropWhile (· != 10))=d at h1 ⊢
    rwa [←bO,C6,LD _ d] at h1
   ·rw[if_neg hc]
    intro c' r' e
    simp only[E7,K7] at e
    rw[←e.1,←e.2]
    exact⟨hb,hc⟩
theorem nX:∀(j:Nat) (s:Str),cF j s≤s.length
 |0,s=>by simp[cF]
 |j+1,[]=>by simp[cF]
 |j+1,c::r=>by
   rw[cF]
   split
   ·have:=nX j r;simp only[e8];omega
   ·split
    ·have:=nX j ((c::r).dropWhile (· != 10))
     rw[←bO,r9] at this
     have h2:=(C1 (fun x:UInt8=>x != 10) (l:=c::r)).length_le
     rw[←bO]
     omega
    ·simp
theorem xj {m k:Nat}{c:UInt8}{r:Str} (h:Stop (c::r)):dU (m+1) k (c::r)=match firstT (c::r) with
  |.err e=>(.err e,k)
  |.ok (kd,t,v)=>kU [⟨kd,t,v,k⟩] (dU m (k+t.length) ((c::r).drop t.length)):=by
 obtain⟨h1,h2⟩:=h c r rfl
 conv=>lhs;unfold dU
 rw[if_neg h1,if_neg h2]
 split
 ·rename_i h;rw[h]
 ·rename_i kd t v h
  rw[h]
  simp only
  rcases dU m (k+t.length) ((c::r).drop t.length) with⟨a,b⟩
  cases a <;> rfl
theorem Gi {o:bU} (s:Str):bu Tryz.prog 5 o 29 [sv s] (· = Cn (Src.mO s)):=by
 refine hdG Tryz.func29 rfl [.tmp 2,.tmp 3,.tmp 4] fun b₀ β0 s0 w0 g=>?_
 unfold Src.mO
 by_cases hbig:20000<s.length
 ·exact NL
 have hbi:¬(20000:Int)<(s.length:Int):=a6
 rw[if_neg hbig]
 simp only[go_sem,hbi]
 refine cO rfl (by simp only[go_sem];exact zx s 0 a6 a6) ?_
 rintro _ rfl
 obtain⟨k0,hk0⟩:∃k0,cF (s.length+1) (s.drop 0)=k0:=⟨_,rfl⟩
 have hk0l:k0≤s.length:=by have:=nX (s.length+1) s;rw[E7] at hk0;omega
 rw[hk0,A3]
 simp only[go_sem]
 refine aM (fun n st=>∃(k:Nat) (m:Nat) (l:List Src.Tok),n+k=s.length∧(s.drop k).length<m∧dU (s.length+1) 0 s=kU l (dU m k (s.drop k))∧Stop (s.drop k)∧l.length≤k∧st.f 0=sv s∧st.f 6=iv .i64 k∧
  ((l=[]∧st.f 5=.one (.d .nsl))∨(l≠[]∧st.f 5=.one (.osl 31 (st.gen 31) 4 0 l.length)∧st.obj 31=some (me l)))) (s.length-k0) ?_ ?_
 ·obtain⟨m',h1,h2⟩:=ja (s.length+1) (s.length+1) 0 s a6
  have h3:=kj (s.length+1) s a6
  rw[E7] at hk0
  rw[hk0] at h1 h2 h3
  rw[A3] at h2
  refine⟨k0,m',[],a6,h1,by rw[tw];exact h2,h3,a7,?_⟩
  simp only[go_sem]
  exact .inl trivial
 clear hk0 hk0l
 rintro n f g' ob ⟨k,m,l,hk,hm,hL,hst,hlk,q0,q6,q5⟩
 simp only at q0 q6 q5
 have hk0:(0:Int)≤(k:Int):=a6
 by_cases hlt:k<s.length
 case neg=>
  have hlti:¬(k:Int)<(s.length:Int):=a6
  rw[l6 a6] at hL
  obtain⟨m',rfl⟩:∃m',m=m'+1:=⟨m-1,a6⟩
  rw[hL]
  have hend:∀k,kU l (dU (m'+1) k [])=(.ok l,0):=fun k=>by unfold dU kU;simp
  exact Mj
 have hlti:(k:Int)<(s.length:Int):=a6
 obtain⟨c,hc⟩:=getq hlt
 have hdrop:=drop_cons hc
 obtain⟨m',rfl⟩:∃m',m=m'+1:=⟨m-1,a6⟩
 have hml:(s.drop (k+1)).length<m':=by rw[hdrop] at hm;simp only[e8] at hm;omega
 rw[hdrop] at hst
 rw[hdrop,xj hst,←hdrop] at hL
 simp only[go_sem,q0,q6,hlti]
 refine er rfl (by simp only[go_sem];exact Gh s k hlt a6) ?_
 rintro _ rfl
 cases hf:firstT (s.drop k) with
 |err e=>
   have he:e=2∨e=3:=pC (by rw[hdrop];simp) hf
   have hei:¬(e:Int)=0:=a6
   rw[hf] at hL
   simp only[kU] at hL
   rw[hL]
   unfold pF fM fB
   simp only[go_sem,j8,n0,hei,q6]
   exact MK
 |ok x=>
   obtain⟨kd,t,v⟩:=x
   obtain⟨t1,t2,t3,t4⟩:=pB hf
   rw[hf] at hL
   simp only at hL
   rw[C6,←qA] at hL
   have hdl2:(s.drop k).length=s.length-k:=r9
   have hdl3:(s.drop (k+t.length)).length=s.length-(k+t.length):=r9
   have hw2:IntKind.i64.wrap ((k:Int)+(t.length:Int))=((k+t.length:Nat):Int):=by rw[wrap_i64] <;> omega
   obtain⟨m2,h1,h2⟩:=ja (s.length+1) m' (k+t.length) (s.drop (k+t.length)) (by rw[hdl3];rw[r9] at hml;omega)
   have h3:=kj (s.length+1) (s.drop (k+t.length)) a6
   have h4:=nX (s.length+1) (s.drop (k+t.length))
   have hpass:=zx s (k+t.length) a6 a6
   rw[h2] at hL
   rw[C6] at hL h1 h3
   obtain⟨k2,hk2⟩:∃k2,k+t.length+cF (s.length+1) (s.drop (k+t.length))=k2:=⟨_,rfl⟩
   rw[hk2] at hL h1 h3 hpass
   unfold pF fM fB
   rcases q5 with⟨rfl,q5⟩|⟨hne,q5,o5⟩
   ·simp only[go_sem,j8,n0,q0,q6,q5,aJ,hw2]
    refine⟨⟨a8,a8⟩,?_⟩
    refine cO rfl (by simp only[go_sem,q0];exact hpass) ?_
    rintro _ rfl
    simp only[go_sem]
    refine ar (s.length-k2) a6 ⟨k2,m2,[⟨kd,t,v,k⟩],a6,h1,hL,h3,by simp;omega,?_⟩
    simp only[go_sem,q0]
    first|exact .inr rfl|exact .inr ⟨by simp,rfl⟩|exact .inr ⟨by simp,rfl,rfl⟩
   ·have htc:=mN l
    simp only[go_sem,j8,n0,q0,q6,q5,o5,aJ,hw2]
    refine⟨a6,⟨a8,a6⟩,?_⟩
    refine cO rfl (by simp only[go_sem,q0];exact hpass) ?_
    rintro _ rfl
    simp only[go_sem]
    refine ar (s.length-k2) a6 ⟨k2,m2,l++[⟨kd,t,v,k⟩],a6,h1,hL,h3,by simp;omega,?_⟩
    simp only[go_sem,q0]
    refine .inr ⟨a7,a7,?_⟩
    rw[pA,j4 a6]
    rfl
end
end Go.Proofs.YtphohejoiocikaaGreatDoor
namespace Go.Src
section
attribute [local congr] Go.Am.ite_cc
mutual
theorem Gj:∀e:Ex,szE e≤1000000000000000000→inE e
 |.mk _ _ _ _ kids,h=>by
   rw[szE] at h
   exact⟨by have:=(nY kids a6).1;omega,(nY kids a6).2⟩
theorem nY:∀l:List Ex,bB l≤1000000000000000000→l.length≤bB l∧ph l
 |[],_=>⟨b9 _,j6⟩
 |.mk k o n nm kids::l,h=>by
   rw[bB] at h
   have h1:=Gj (.mk k o n nm kids) a6
   have h2:=nY l a6
   refine⟨?_,h1,h2.2⟩
   rw[bB,szE,e8]
   omega
end
mutual
theorem Gk:∀e:Stm,szS e≤1000000000000000000→inS e
 |.mk _ _ e th el,h=>by
   rw[szS] at h
   have h1:=nY e a6
   have h2:=oc th a6
   have h3:=oc el a6
   exact⟨⟨a6,h1.2⟩,⟨a6,h2.2⟩,a6,h3.2⟩
theorem oc:∀l:List Stm,bG l≤1000000000000000000→l.length≤bG l∧pi l
 |[],_=>⟨b9 _,j6⟩
 |.mk k nm e th el::l,h=>by
   rw[bG] at h
   have h1:=Gk (.mk k nm e th el) a6
   have h2:=oc l a6
   refine⟨?_,h1,h2.2⟩
   rw[bG,szS,e8]
   omega
end
theorem wc:∀{l:List Fn}{f:Fn},f∈l→szF f≤(l.map szF).sum
 |x::l,f,h=>by
   rw[j8,List.sum_cons]
   rcases s7.1 h with rfl|h
   ·omega
   ·have:=wc h;omega
theorem KU {p:Prog} (h:szP p≤1000000000000000000):InP p:=by
 unfold szP rI at h
 refine⟨a6,a6,a6,fun f hf=>?_⟩
 have h1:f.params.length+f.locals.length+bG f.body≤(p.funcs.map szF).sum:=wc hf
 have h2:=oc f.body a6
 exact⟨⟨a6,a6⟩,a6,h2.2⟩
end
end Go.Src
namespace Go.Proofs.YtphohejoiocikaaGreatDoor
section
attribute [local congr] Go.Am.ite_cc
open Go Go.Am Go.Asm
open Go.Src (jY kk pR)
theorem Cw {o:bU} (src:Str):bu Tryz.prog 5 o 10 [sv src] (· = zi (uA src)):=by
 refine fY 102 5 o aQ mixed Tryz.func10 rfl b5 [.cell 2 39,.tmp 3,.tmp 4] rfl b6 b6 (by simp[Tryz.ntmps10]) fun b₀ β0 s0 w0 g=>?_
 simp only[go_sem]
 refine er rfl (by simp only[go_sem];exact Gi src) ?_
 rintro _ rfl
 unfold Cn
 obtain⟨hl,hnum⟩:=Src.Ai (s:=src)
 have hsm:=fun p m (h:jY (Src.mO src).1 (kk (Src.mO src).1) 0=.ok p m)=>Src.DZ h
 unfold uA Src.Ls
 by_cases he:(Src.mO src).2.2=0
 case neg=>
  have hei:¬((Src.mO src).2.2:Int)=0:=a6
  rw[if_pos he]
  simp only[go_sem,hei]
  exact NR
 rw[if_neg (by simp[he])]
 have hgo:=Src.JZ (ts:=(Src.mO src).1)
 generalize hts:(Src.mO src).1=ts at hl hnum hgo hsm ⊢
 unfold Src.kk at hgo hsm
 generalize hpn:jY ts (4*ts.length+7) 0=pn at hgo hsm ⊢
 simp only[go_sem,he]
 refine aA aB rfl (FJ a6 hnum) N9 200 a6 (fun i hi=>by simp only[upd];(repeat rw[if_neg (by omega)])) (by simp only[go_sem,rdW,bN]) ?_
 rcases hp:pR ts with⟨p,m,w⟩
 rw[hp] at hgo
 unfold cz qw rdW bN
 cases w with
 |true=>
   have hpn2:pn=.no m:=by
    cases pn with
    |ok a k=>cases hgo
    |no k=>
      obtain⟨rfl,_⟩:m=k∧true=true:=by simpa[Src.Goes] using hgo
      rfl
   subst hpn2
   simp only[go_sem]
   refine am aB rfl (by simp only[go_sem];exact vW (q:=(m,true)) (ts:=ts) src (by simp only[go_sem,rdW,bN])) ?_
   rintro _ _ _ ⟨rfl,rfl,rfl⟩
   simp only[go_sem]
   exact NR
 |false=>
   have hpn2:pn=.ok p m:=by
    cases pn with
    |ok a k=>
      obtain⟨rfl,rfl,_⟩:p=a∧m=k∧true=true:=by simpa[Src.Goes] using hgo
      rfl
    |no k=>simp[Src.Goes] at hgo
   subst hpn2
   have hRt:=ta p (Src.KU (by have:=hsm p m rfl;omega))
   unfold cz qw at hRt
   by_cases hm:m<ts.length
   ·have hmi:(m:Int)<(ts.length:Int):=a6
    simp only[go_sem,hmi,b7]
    refine am aB rfl (by simp only[go_sem];exact vW (q:=(m,false)) (ts:=ts) src (by simp only[go_sem,rdW,bN])) ?_
    rintro _ _ _ ⟨rfl,rfl,rfl⟩
    simp only[go_sem]
    refine⟨_,⟨_,⟨_,_,rfl,pg [.nsl,.nsl,.nsl],_,_,rfl,cc _,_,_,rfl,cc _,rfl⟩,rfl⟩,?_⟩
    simp only[if_pos hm]
    rfl
   have hmi:¬(m:Int)<(ts.length:Int):=a6
   obtain⟨z,hz⟩:∃z,Src.Ab p=z:=⟨_,rfl⟩
   rw[hz] at hRt
   simp only[go_sem,hmi,b7]
   refine cO rfl (by simp only[go_sem];exact hRt) ?_
   rintro _ rfl
   cases z
   ·simp only[go_sem]
    refine⟨_,⟨_,⟨_,_,rfl,pg [.nsl,.nsl,.nsl],_,_,rfl,cc _,_,_,rfl,cc _,rfl⟩,rfl⟩,?_⟩
    simp only[if_neg hm,hz]
    rfl
   ·simp only[go_sem]
    refine⟨_,⟨_,⟨_,_,rfl,pg (qw p),_,_,rfl,cc _,_,_,rfl,cc _,rfl⟩,rfl⟩,?_⟩
    simp only[if_neg hm,hz]
    rfl
end
section
attribute [local congr] Go.Am.ite_cc
open Go Go.Am Go.Asm
open Go.Src (ew fdP ca by4)
theorem yu (w:Nat) (h:w<4294967296):by4 w=ez w:=by
 have e:∀x:Nat,UInt8.ofNat (x%256)=UInt8.ofNat x:=fun x=>UInt8.toNat.inj a7
 simp only[by4,ez,e]
theorem Br (code:List Nat) (d:Nat) (hw:∀w∈code,w<4294967296) (hl:code.length<4294967296) (hd:d<4294967296):[83,69,69,68]++by4 code.length++by4 d++code.flatMap by4=xf (code,d):=by
 have h:∀{l:List Nat},(∀w∈l,w<4294967296)→l.flatMap by4=cK l:=fun {l}=>by
  induction l with
  |nil=>intro _;rfl
  |cons a l ih=>intro h;unfold cK at ih ⊢;rw[y7,y7,yu a (h a a7),ih fun w hw=>h w (by simp[hw])]
 unfold xf
 rw[h hw,yu _ hl,yu _ hd]
 simp[cK]
theorem Bt:SmP ew:=⟨a8,a8,a8⟩
theorem EW:Sm ew:=⟨a8,a8,a8,fun f hf=>by
 simp only[ew,s7,u7,E0] at hf
 rcases hf with rfl|rfl|rfl <;> exact⟨⟨b0,b0⟩,b0⟩⟩
theorem EX:∀f∈ew.funcs,Src.pi f.body:=fun f hf=>by
 simp only[ew,s7,u7,E0] at hf
 rcases hf with rfl|rfl|rfl <;> simp[Src.Dh,Src.yq,Src.oT,Src.pi,Src.inS,Src.ph,Src.inE,Src.oS,Src.ut,Src.vB,Src.num,Src.cl,Src.op2,Src.an,Src.nu,Src.vr,Src.st,Src.pt,Src.wh,Src.iff,Src.rt,Src.cs,Src.gt,Src.EU,Src.iw,Src.sV,Src.sC,Src.sW,Src.sN,Src.sO]
theorem Bu:Src.KV ew=0:=b0
theorem EY:∀f fn,ew.funcs[f]? = some fn→∀s,fdP ew f s=ca ew fn s:=fun f fn h s=>by unfold fdP;rw[h]
theorem Bv {o:bU}{code:List Nat}{d:Nat} (hw:∀w∈code,w<4294967296) (hl:code.length≤40) (hd:d≤32768):∃tk,bu Tryz.prog 5 o 14 [cz ew,sv (gH code d),iv .i64 (100*((gH code d).length+10):Nat)] (· = ET 1 (xf (code,d)) tk):=by
 have hlen:(gH code d).length≤10000:=by
  have h1:=iA hw
  have h2:=jX (l:=[code.length,d]) N7
  simp only[gH,c9,e8,n9] at h2 ⊢
  omega
 have hln:code.length≤(gH code d).length:=by
  have:∀(l:List Nat),l.length≤(l.flatMap bi).length:=fun l=>by
   induction l with
   |nil=>simp
   |cons a l ih=>
     have:1≤(bi a).length:=by unfold bi;split <;> simp[dT]
     simp only[y7,c9,e8];omega
  have:=this code
  simp only[gH,c9];omega
 obtain⟨tk,k,v,hE⟩:=uu (fu:=100*((gH code d).length+10)) hw a6 (show d<4294967296 by omega) rfl a6
 rw[Br code d hw a6 a6] at hE
 exact⟨tk,IC (p:=ew) (v:=v) (σ':=⟨_,_,_⟩) rfl rfl a8 a6 fun gV=>yo Bt EY a6 a6 hE⟩
theorem sB {o:bU} (code:List Nat) (d:Int) (hw:∀w∈code,w<4294967296) (hl:code.length≤40) (hm:pX code d=true):bu Tryz.prog 5 o 7 [sv iT,jo code d] (· = bv true):=by
 refine fY 1000 5 o aQ mixed Tryz.func7 rfl b5 [.tmp 4] rfl b6 b6 (by simp[Tryz.ntmps7]) fun b₀ β0 s0 w0 g=>?_
 have hm2:=D8 hm
 obtain⟨dn,rfl⟩:∃dn:Nat,d=dn:=⟨d.toNat,a6⟩
 have hP:=Cw (o:=o) iT
 rw[ID] at hP
 unfold zi at hP
 have hS:=BV (o:=o) ew EW EX
 rw[Bu] at hS
 have hN:=uO code dn hw
 unfold eU at hN
 rw[if_pos hm,G2] at hN
 have hU:=EV (code,dn) hm2.1 Oa hw
 obtain⟨tk,hR⟩:=Bv (o:=o) hw hl (show dn≤32768 by omega)
 have hlen:(gH code dn).length≤10000:=by
  have h1:=iA hw
  have h2:=jX (l:=[code.length,dn]) N7
  simp only[gH,c9,e8,n9] at h2 ⊢
  omega
 generalize iT=src at hP ⊢
 generalize ew=p at hP hS hR
 generalize gH code dn=t at hN hR hlen
 generalize xf (code,dn)=u at hU hR
 have w1:IntKind.i64.wrap ((t.length:Int)+10)=((t.length+10:Nat):Int):=by rw[wrap_i64] <;> omega
 have w2:IntKind.i64.wrap (100*((t.length+10:Nat):Int))=((100*(t.length+10):Nat):Int):=by rw[wrap_i64] <;> omega
 rw[bE] at hP hS hR
 unfold jo eH at hN hU ⊢
 unfold ET at hR
 simp only[go_sem]
 refine er rfl (by simp only[go_sem];exact hP) ?_
 rintro _ rfl
 simp only[go_sem]
 refine er rfl OP ?_
 rintro _ rfl
 simp only[go_sem]
 refine cO rfl Oj ?_
 rintro _ rfl
 simp only[go_sem]
 refine cO rfl O3 ?_
 rintro _ rfl
 simp only[go_sem,w1,w2]
 refine er rfl (by simp only[go_sem,w1,w2];exact hR) ?_
 exact Nu
end
section
attribute [local congr] Go.Am.ite_cc
open Go Go.Am Go.Asm
theorem vZ {s:St}{c1 c2:C}{x1 x2:D} (h1:Frz s c1 x1) (h2:Frz s c2 x2):iR s (.agg [c1,c2]) (.agg [.d x1,.d x2]):=
 ⟨[x1,x2],rfl,fun i c hc=>by match i,hc with|0,hc=>cases hc;exact⟨_,rfl,h1⟩|1,hc=>cases hc;exact⟨_,rfl,h2⟩,rfl⟩
theorem zM:eU [436207616,5] 3=.tup [sv [50,32,51,10,50,54,32,48,32,48,32,48,10,48,32,53,10],iv .i64 0]:=by
 have d2:dec 2=[50]:=dg a8
 have d3:dec 3=[51]:=dg a8
 have d0:dec 0=[48]:=dg a8
 have d5:dec 5=[53]:=dg a8
 have d26:dec 26=[50,54]:=by rw[jW a8,show 26/10=2 by decide,d2];rfl
 have h1:bi 436207616=[50,54,32,48,32,48,32,48,10]:=by
  unfold bi
  rw[if_pos a8,show 436207616/16777216=26 by decide,show 436207616/1048576%16=0 by decide,qz,d26,d0];rfl
 have h2:bi 5=[48,32,53,10]:=by
  unfold bi
  rw[if_neg a8,d5];rfl
 unfold eU
 rw[if_pos a8]
 unfold gH
 rw[show [436207616,5].length=2 from rfl,show (3:Int).toNat=3 from rfl,tu,d2,d3,y7,y7,List.flatMap_nil,h1,h2]
 rfl
theorem zN:eU [] (-1)=.tup [sv [],iv .i64 1]:=by
 unfold eU
 rw[if_neg a8]
theorem Cl {o:bU} (hp:rE o) (ht:mM o):bu Tryz.prog 5 o 4 [] (· = bv true):=by
 refine hdG Tryz.func4 rfl [.tmp 0] fun b₀ β0 s0 w0 g=>?_
 simp only[go_sem]
 refine iP (xs:=[jo [436207616,5] 3]) aB (fun s β ds w h=>h.1.2) rfl ?_ (qy hp [436207616,5] 3 a7) (by rintro _ rfl;rw[zM];rfl) ?_
 ·simp only[go_sem]
  exact⟨_,_,rfl,vZ (sI (code:=[436207616,5]) Oe Oe rfl) (.d _),rfl⟩
 rintro _ rfl
 rw[zM]
 simp only[go_sem]
 refine iP (xs:=[jo [] (-1)]) aB (fun s β ds w h=>h.1.2) rfl ?_ (qy hp [] (-1) a7) (by rintro _ rfl;rw[zN];rfl) ?_
 ·simp only[go_sem]
  exact⟨_,_,rfl,vZ (.d .nsl) (.d _),rfl⟩
 rintro _ rfl
 rw[zN]
 simp only[go_sem]
 refine er rfl (by simp only[go_sem];exact FQ ht 100) ?_
 exact Nu
theorem yv:ap Tryz.prog 6 [] (· = sv iT):=by
 refine hdP Tryz.func6 rfl [0] fun g=>?_
 simp only[go_sem]
 rfl
theorem uw:iT.length≤20000:=b0
theorem mB {o:bU} (hp:rE o) (ht:mM o) (code:List Nat) (d:Int) (hw:∀w∈code,w<4294967296):bu Tryz.prog 5 o 3 [jo code d] (· = bv true):=by
 refine hdG Tryz.func3 rfl [.tmp 2] fun b₀ β0 s0 w0 g=>?_
 have hR:=jV code d
 have hA:=fun h1 h2=>sB (o:=o) code d hw h1 h2
 have hS:=yv
 have hl:=uw
 generalize iT=src at hA hS hl
 unfold jo eH at hR hA ⊢
 have hli:(src.length:Int)≤20000:=a6
 simp only[go_sem]
 refine er rfl (by simp only[go_sem];exact Cl hp ht) ?_
 rintro _ rfl
 by_cases h4:40<code.length
 ·have h4i:(40:Int)<(code.length:Int):=a6
  simp only[go_sem,b7,h4i]
 have h4i:¬(40:Int)<(code.length:Int):=a6
 simp only[go_sem,b7,h4i]
 refine cO rfl Om ?_
 rintro _ rfl
 cases hm:pX code d
 ·exact Ma
 simp only[go_sem]
 refine cO rfl OP ?_
 rintro _ rfl
 simp only[go_sem,hli]
 refine cO rfl OP ?_
 rintro _ rfl
 simp only[go_sem]
 refine er rfl (by simp only[go_sem];exact hA a6 hm) ?_
 exact Nu
end
end Go.Proofs.YtphohejoiocikaaGreatDoor
namespace Go.Am
section
section
section
variable {P:Program}{t:TypeId}{ds:List D}
theorem fq.inv_int {k:IntKind} (h:fq P t ds) (hu:P.underlying t=some (.int k)):∃m,ds=[.int k m]∧(Lit.int k m).wf=true:=by
 cases h with
 |int hu' m hw=>rw[hu] at hu';cases hu';exact⟨m,rfl,hw⟩
 |bool hu'=>rw[hu] at hu';cases hu'
 |str hu'=>rw[hu] at hu';cases hu'
 |sl hu'=>rw[hu] at hu';cases hu'
 |struct hu'=>rw[hu] at hu';cases hu'
 |array hu'=>rw[hu] at hu';cases hu'
theorem fq.inv_sl {e:TypeId} (h:fq P t ds) (hu:P.underlying t=some (.slice e)):∃es,ds=[.sl es]∧es.length*P.bytesOf e≤reachBytes∧∀x∈es,fq P e x:=by
 cases h with
 |sl hu' es hl hh=>rw[hu] at hu';cases hu';exact⟨es,rfl,hl,hh⟩
 |bool hu'=>rw[hu] at hu';cases hu'
 |int hu'=>rw[hu] at hu';cases hu'
 |str hu'=>rw[hu] at hu';cases hu'
 |struct hu'=>rw[hu] at hu';cases hu'
 |array hu'=>rw[hu] at hu';cases hu'
theorem fq.inv_struct {fs:Array Field} (h:fq P t ds) (hu:P.underlying t=some (.struct fs)):∃parts:List (List D),ds=parts.flatten∧parts.length=fs.toList.length∧∀(i:Nat) (f:Field) (x:List D),fs.toList[i]? = some f→parts[i]? = some x→fq P f.type x:=by
 cases h with
 |struct hu' parts hl hh=>rw[hu] at hu';cases hu';exact⟨parts,rfl,hl,hh⟩
 |bool hu'=>rw[hu] at hu';cases hu'
 |int hu'=>rw[hu] at hu';cases hu'
 |str hu'=>rw[hu] at hu';cases hu'
 |sl hu'=>rw[hu] at hu';cases hu'
 |array hu'=>rw[hu] at hu';cases hu'
theorem vp {α β:Type}{f:β→α}{Q:β→Prop}:∀{l:List α},(∀x∈l,∃y,x=f y∧Q y)→∃m:List β,l=m.map f∧∀y∈m,Q y
 |[],_=>⟨[],rfl,fun _ h=>by cases h⟩
 |x::l,h=>by
   obtain⟨y,rfl,hy⟩:=h x a7
   obtain⟨m,rfl,hm⟩:=vp (l:=l) fun x hx=>h x OJ
   exact⟨y::m,rfl,fun z hz=>by
    rcases s7.1 hz with rfl|hz
    ·exact hy
    ·exact hm z hz⟩
end
end
end
end Go.Am
namespace Go.Proofs.YtphohejoiocikaaGreatDoor
section
open Go Go.Am Go.ChangeShapes Go.WideShapes Go.ChangeAt Go.RowKit Go.Lib
section
theorem own:ownKnob Tryz.prog.godebug=none:=b6
theorem laidOut:laidOutB Tryz.prog=true:=b6
def oU:List (String×DataW Unit):=[("math/bits.deBruijn32tab",Rows.laid_math_bits_deBruijn32tab),("math/bits.deBruijn64tab",Rows.laid_math_bits_deBruijn64tab),("internal/strconv.uint64pow10",Rows.laid_internal_strconv_uint64pow10),("seedcorn/hex.small",Rows.laid_seedcorn_hex_small),("seedcorn/token.words",Rows.laid_seedcorn_token_words),("seedcorn/token.signs",Rows.laid_seedcorn_token_signs)]
theorem u9:Tryz.prog.underlying 9=some .string:=b6
theorem u4:Tryz.prog.underlying 4=some .bool:=b6
theorem u3:Tryz.prog.underlying 3=some (.int .i64):=b6
theorem u32:Tryz.prog.underlying 32=some (.int .u32):=b6
theorem u89:Tryz.prog.underlying 89=some (.int .u64):=b6
theorem u22:Tryz.prog.underlying 22=some (.slice 32):=b6
def yw:Option TypeDesc→Option (List TypeId)
 |some (.struct fs)=>some (fs.toList.map (·.type))
 |_=>none
theorem u24:∃fs:Array Field,Tryz.prog.underlying 24=some (.struct fs)∧fs.toList.map (·.type)=[22,3]:=by
 have h:yw (Tryz.prog.underlying 24)=some [22,3]:=b6
 cases hu:Tryz.prog.underlying 24 with
 |none=>rw[hu] at h;cases h
 |some d=>
   rw[hu] at h
   cases d with
   |struct fs=>exact⟨fs,rfl,B3 h⟩
   |_=>cases h
theorem Bw {x:List D} (h:fq Tryz.prog 24 x):∃code d,x=[eH code,.int .i64 d]∧∀w∈code,w<4294967296:=by
 obtain⟨fs,h1,h2⟩:=u24
 obtain⟨parts,rfl,hl,hp⟩:=h.inv_struct h1
 have hlen:fs.toList.length=2:=by have:=congrArg List.length h2;simpa using this
 have hty:∀(i:Nat) (ty:TypeId) (x:List D),[22,3][i]? = some ty→parts[i]? = some x→fq Tryz.prog ty x:=fun i ty x hi hx=>by
  rw[←h2,l8] at hi
  cases hf:fs.toList[i]? with
  |none=>rw[hf] at hi;cases hi
  |some f=>rw[hf] at hi;cases hi;exact hp i f x hf hx
 rw[hlen] at hl
 match parts,hl with
 |[a,b],_=>
   obtain⟨es,rfl,_,he⟩:=(hty 0 22 a rfl rfl).inv_sl u22
   obtain⟨m,rfl,hm⟩:=vp (f:=fun(n:Nat)=>[D.int .u32 n]) (Q:=fun n=>n<4294967296) fun x hx=>by
    obtain⟨n,rfl,hb⟩:=(he x hx).inv_int u32
    have hw:IntKind.u32.min≤n∧n≤IntKind.u32.max:=by simpa[Lit.wf] using hb
    have h1:IntKind.u32.min=0:=a8
    have h2:IntKind.u32.max=4294967295:=a8
    obtain⟨k,rfl⟩:∃k:Nat,n=(k:Int):=⟨n.toNat,a6⟩
    exact⟨k,rfl,a6⟩
   obtain⟨d,rfl,_⟩:=(hty 1 3 b rfl rfl).inv_int u3
   exact⟨m,d,rfl,hm⟩
variable {cs:List Value}{P:Program}
theorem EZ {v:Value}{n:Nat} (h:v.cells.toList=cs) (hl:cs.length=n+2):v=.agg cs.toArray:=by
 subst h
 cases v with
 |agg vs=>simp[Value.cells]
 |_=>simp[Value.cells] at hl
def tys:List TypeId:=[3,22,24,32]
theorem oV:qO Tryz.prog tys=true:=b6
theorem kx {H:Type}{enc:TypeId×Value→H}{w:World}{base:Nat}{sp:Nat→Bool}{held:Bool}{fuel:Nat}{t e:TypeId}{n:Nat}{zs:List (List UInt8)}{p:List MemPlace}
  (ht:P.underlying t=some (.array n e)) (he:P.underlying e=some .string) (hce:P.cellsOf e=1) (hct:P.cellsOf t=n)
  (h:DataW.trod enc P w base sp held fuel t cs=some (DataW.agg (zs.map fun z=>.lit (.string z)),p)):∀(i:Nat) z,zs[i]? = some z→cs[i]? = some (.string ⟨z.toArray⟩):=by
 cases fuel with
 |zero=>simp[DataW.trod] at h
 |succ fuel=>
   simp only[DataW.trod,ht,hce,hct,H5] at h
   split at h
   ·obtain⟨xs,hm,hx⟩:=J7.1 h
    have hxs:xs.map (·.1)=zs.map fun z=>(DataW.lit (.string z):DataW H):=by
     have:=congrArg Prod.fst hx
     simpa using this
    have hxl:xs.length=n:=by simpa using mapM_length hm
    have hzl:zs.length=n:=by
     have:=congrArg List.length hxs
     simp at this
     omega
    intro i z hz
    have hi:i<n:=by
     have:=(j0.1 hz).1
     omega
    obtain⟨b,hb,hf⟩:=mapM_at hm i i (by simp[hi])
    obtain⟨s,hc,rfl,_⟩:=DataW.trod_string he hf
    have h1:cs[i]? = some (.string s):=by
     have:=congrArg (·[0]?) hc
     simpa[D5,A4] using this
    have h2:(xs.map (·.1))[i]? = some (DataW.lit (.string s.data.toList):DataW H):=by simp[hb]
    rw[hxs,l8,hz] at h2
    have h3:z=s.data.toList:=by simpa using h2
    rw[h1,h3]
   ·cases h
theorem yx {W w:World}{n:String}{g:Nat} (hn:P.globalNamed n=some g) (he:w.heap[g]? = W.heap[g]?):w.var? P n=W.var? P n:=by
 unfold World.var?
 rw[hn]
 show (match w.heap[g]? with|some (.cells cs _ _)=>some cs|_=>none)=(match W.heap[g]? with|some (.cells cs _ _)=>some cs|_=>none)
 rw[he]
theorem wQ {W:World} (h:laidMetH Tryz.prog oU W):∃o,lr 5 o W∧rE o∧mM o:=by
 rw[MakeChecks.laidMetH_plain _ _ _ b6] at h
 have hpow:TabIs Tryz.prog W "internal/strconv.uint64pow10" .u64 pow10Tab:=by
  obtain⟨g,t,cs,fuel,p,hg,hty,hvar,hd⟩:=laidMet.reads h (n:= "internal/strconv.uint64pow10") (d:=Rows.laid_internal_strconv_uint64pow10) (by simp[oU])
  obtain rfl:=B3 ((show Tryz.prog.globalNamed "internal/strconv.uint64pow10" = some 1 by kernel_rfl).symm.trans hg)
  obtain rfl:=B3 ((show (Tryz.prog.globals[1]?).map (·.type)=some 240 by kernel_rfl).symm.trans hty)
  have hcs:=cells_of_tab (H:=Unit) (k:=.u64) (zs:=pow10Tab) (show Tryz.prog.underlying 240=some (.array 20 89) by kernel_rfl) u89 b6 b6 hd
  unfold TabIs
  rw[hvar,←hcs]
 have hwordsT:∀(i:Nat) z,Src.cE[i]? = some z→W.cell? ⟨5,i,none⟩=some (.string ⟨z.toArray⟩):=by
  obtain⟨g,t,cs,fuel,p,hg,hty,hvar,hd⟩:=laidMet.reads h (n:= "seedcorn/token.words") (d:=Rows.laid_seedcorn_token_words) (by simp[oU])
  obtain rfl:=B3 ((show Tryz.prog.globalNamed "seedcorn/token.words" = some 5 by kernel_rfl).symm.trans hg)
  obtain rfl:=B3 ((show (Tryz.prog.globals[5]?).map (·.type)=some 316 by kernel_rfl).symm.trans hty)
  intro i z hz
  have hc:=kx (H:=Unit) (zs:=Src.cE) (show Tryz.prog.underlying 316=some (.array 10 9) by kernel_rfl) u9 b6 b6 hd i z hz
  rw[World.var?_cell hg hvar i,←C2]
  exact hc
 have hsignsT:∀(i:Nat) z,Src.eV[i]? = some z→W.cell? ⟨2,i,none⟩=some (.string ⟨z.toArray⟩):=by
  obtain⟨g,t,cs,fuel,p,hg,hty,hvar,hd⟩:=laidMet.reads h (n:= "seedcorn/token.signs") (d:=Rows.laid_seedcorn_token_signs) (by simp[oU])
  obtain rfl:=B3 ((show Tryz.prog.globalNamed "seedcorn/token.signs" = some 2 by kernel_rfl).symm.trans hg)
  obtain rfl:=B3 ((show (Tryz.prog.globals[2]?).map (·.type)=some 273 by kernel_rfl).symm.trans hty)
  intro i z hz
  have hc:=kx (H:=Unit) (zs:=Src.eV) (show Tryz.prog.underlying 273=some (.array 24 9) by kernel_rfl) u9 b6 b6 hd i z hz
  rw[World.var?_cell hg hvar i,←C2]
  exact hc
 have h0:=hwordsT 0 _ rfl
 have hlt:5<W.heap.size:=by
  refine Nat.lt_of_not_le fun hle=>?_
  simp[World.cell?,D9 hle] at h0
 refine⟨fun b=>W.heap[b]?,⟨hlt,fun _ _=>rfl⟩,fun w hw=>?_,fun w hw=>⟨fun i t ht=>?_,fun i t ht=>?_⟩⟩
 ·unfold TabIs
  rw[yx (show Tryz.prog.globalNamed "internal/strconv.uint64pow10" = some 1 by kernel_rfl) (hw.2 1 a8)]
  exact hpow
 ·rw[←hwordsT i t ht]
  unfold World.cell?
  rw[show w.heap[5]? = W.heap[5]? from hw.2 5 a8]
 ·rw[←hsignsT i t ht]
  unfold World.cell?
  rw[show w.heap[2]? = W.heap[2]? from hw.2 2 a8]
end
end
section
open Go Go.Am
def KC:List FuncId:=[3,4,8,15,17,16,40,69,41,70,118,119,120,158,157,159,121,122,160,161,193,194,20,18,42,71,72,73,19,43,74,9,21,44,76,77,126,166,127,128,167,125,129,130,168,202,245,246,270,272,271,280,247,248,75,123,162,195,163,164,165,196,197,198,199,201,200,203,124,78,131,132,169,133,170,204,171,205,45,46,79,134,172,206,249,207,250,209,210,208,251,252,173,211,253,254,259,273,255,256,257,212,258,213,135,136,174,175,80,81,83,139,180,239,261,262,274,240,263,275,181,82,137,176,214,215,216,217,260,218,138,177,219,220,178,221,222,223,224,225,226,227,228,229,230,231,232,233,234,235,236,237,179,238,89,47,48,84,24,25,50,87,142,86,141,26,22,23,49,85,140,182,27,51,88,28,52,91,90,143,144,183,184,185,186,241,264,265,276,266,267,277,278,279,145,5,6,7,10,29,53,92,54,93,94,95,97,96,98,30,55,99,56,58,100,57,59,101,146,147,187,149,188,189,148,31,32,60,61,102,103,62,104,150,190,11,33,63,106,105,151,107,108,152,109,64,34,65,110,111,66,112,153,113,12,35,37,36,67,114,115,116,13,38,14,39,68,117,154,156,155,191,242,268,269,243,244,192]
theorem clo:Tryz.prog.closure 3=KC:=b6
theorem yy:Tryz.prog.unfollowed 3=true:=by
 unfold Program.unfollowed
 rw[clo]
 kernel_rfl
theorem IE:Tryz.prog.recurses 3=true:=by
 unfold Program.recurses
 rw[yy]
 rfl
theorem IF:(Rows.chainAssemblesRow.inPlace==Tryz.prog.inPlace 3)=true:=by
 unfold Program.inPlace
 rw[clo]
 kernel_rfl
theorem IG:(Rows.chainAssemblesRow.named==Tryz.prog.varsNamed 3)=true:=by
 unfold Program.varsNamed
 rw[clo]
 kernel_rfl
theorem Fa:Tryz.prog.goes 3=false:=by
 unfold Program.goes
 rw[clo,yy]
 kernel_rfl
theorem Bx:joinedFacts Tryz.prog 3 Tryz.f3 Rows.chainAssemblesSpec Rows.chainAssemblesRow=true:=by
 unfold joinedFacts
 rw[IF,IG,yy,IE]
 kernel_rfl
theorem yz:false=Rows.chainAssemblesRow.goesBy Tryz.prog:=by
 unfold OpenClaim.goesBy Program.goesAt Program.goesFrom
 rw[show Tryz.prog.funcNamed Rows.chainAssemblesRow.func=some 3 by kernel_rfl]
 simp only[Option.any_some,Fa,LO]
 rfl
end
end Go.Proofs.YtphohejoiocikaaGreatDoor

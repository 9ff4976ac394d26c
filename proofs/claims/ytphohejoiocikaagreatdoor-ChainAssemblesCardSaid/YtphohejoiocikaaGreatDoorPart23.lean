/- A part of the proof; no conditions. -/
import Derived.Test.YtphohejoiocikaaGreatDoorPart22
set_option linter.unusedSimpArgs false
set_option linter.unusedVariables false
set_option maxHeartbeats 64000000
set_option maxRecDepth 100000
namespace Go.Proofs.YtphohejoiocikaaGreatDoor
section
attribute [local congr] Go.Am.ite_cc
open Go Go.Am Go.Asm
open Go.Src (aY ae takeN Ex Stm RQ isR ah bg kM kE rem stR ssR nR lR psR fR)
def FH (x:Str) (ps ls:List Str) (w:Bool) (b:RQ (List Stm)):RQ Src.Fn:=(⟨x,ps,ls,w,b.1⟩,b.2)
def fnE (ts:List Src.Tok) (x:Str) (ps:List Str) (w:Bool) (l:RQ (List Str)):RQ Src.Fn:=FH x ps l.1 w (ssR ts (kE ts) ([],l.2))
theorem JB {ts:List Src.Tok}{q:Nat×Bool} (hl:ts.length≤100000) (hq:q.1≤ts.length):iX 59 [] ts q (fR ts q) fnV:=by
 intro B g ob hB hf ho
 obtain⟨p,hp⟩:∃p,fR ts q=p:=⟨_,rfl⟩
 rw[hp]
 refine ck.toR (hdM B [125] Tryz.func59 rfl [.cell 2 110] N7 hf fun b₀ β0 s0 w0=>?_)
 have n1:=nlo hB
 have n2:=nhi hB
 have hin:InF B g ob g ob:=InF.refl
 have hf1:=hf
 simp only[go_sem,n1,n2]
 refine aA aa rfl (gG ts q 1 a8 a6) N5 (B+51) a6 (fi hf1) N6 ?_
 have hmt:=Src.kf (ts:=ts) (k:=1) a8 hq
 unfold fR at hp
 rcases ht:bg ts 1 q with⟨t,q0⟩
 rw[ht] at hmt
 simp only[ht] at hp
 simp only at hmt
 unfold fM fB
 simp only[go_sem,n1,n2]
 refine aE ts q0 [40] aa rfl N4 N4 a6 (B+51) a6 (fi hf1) ?_
 have hm1:=Src.bY (ts:=ts) (s:=Src.aW) (q:=q0) (by simp[Src.aW]) hmt.2
 rw[show ([40]:Str)=Src.aW from rfl]
 generalize ah ts Src.aW q0=q1 at hp hm1 ⊢
 simp only[go_sem,n1,n2]
 by_cases h1:isR ts Src.aT q1
 case' pos=>
  have hlt:=Src.cP h1 (by simp[Src.aT])
  refine bF ts q1 [41] aa rfl N4 N4 a6 (fun _=>?_) (fun h'=>absurd h1 h')
  rcases hps:psR ts q1 with⟨ps,q4⟩
  have e4:(([]:List Str),q1.1+1,false)=(ps,q4):=by rw[←hps];unfold psR;rw[if_pos h1]
  obtain⟨cx,hfx,hcx⟩:∃cx:C,(∀s:St,gL (B≤·) s cx (.sl (ps.map fun s=>[.str s])))∧cx=.d .nsl:=⟨_,fun s=>by cases e4;exact .nil,rfl⟩
  have hm4:q4.1≤ts.length:=by cases e4;exact hlt
  rw[show (q1.1+1,false)=q4 from by cases e4;rfl]
  simp only[go_sem,n1,n2]
  clear h1
 case' neg=>
  have hcn:=rB ts hl q1 hm1.2
  have hmn:=Src.Df (ts:=ts) (q:=q1) hm1.2
  refine bF ts q1 [41] aa rfl N4 N4 a6 (fun h'=>absurd h' h1) (fun _=>?_)
  rcases hnn:nR ts q1 with⟨ps,q3⟩
  rw[hnn] at hcn hmn
  simp only at hmn
  have hm4:=(Src.bY (ts:=ts) (s:=Src.aT) (q:=q3) (by simp[Src.aT]) hmn.2.1).2
  simp only[go_sem,n1,n2]
  refine aA aa rfl hcn N5 (B+51) a6 (fi hf1) N4 ?_
  simp only[go_sem,n1,n2,jR]
  refine aE ts q3 [41] aa rfl N4 N4 a6 (B+51) a6 (fi hf1) ?_
  have hps:psR ts q1=(ps,ah ts Src.aT q3):=by unfold psR;rw[if_neg h1];simp only[hnn]
  rw[show ([41]:Str)=Src.aT from rfl]
  generalize ah ts Src.aT q3=q4 at hps hm4 ⊢
  obtain⟨cx,hfx,hcx⟩:∃cx:C,(∀s:St,gL (B≤·) s cx (.sl (ps.map fun s=>[.str s])))∧cx=.d (.sl (ps.map fun s=>[D.str s])):=⟨_,fun s=>.d _,rfl⟩
  simp only[go_sem,n1,n2]
  clear h1
 all_goals
  simp only[hps] at hp
  by_cases h:isR ts [119,111,114,100] q4
  case' pos=>
   have hlt:=Src.cP h a7
   refine bF ts q4 [119,111,114,100] aa rfl N4 N4 a6 (fun _=>?_) (fun h'=>absurd h h')
   obtain⟨w,hw⟩:∃w,w=true:=⟨_,rfl⟩
   obtain⟨q5,hq5⟩:∃q5:Nat×Bool,q5=(q4.1+1,false):=⟨_,rfl⟩
   rw[if_pos h,w9 h,←hw,←hq5] at hp
   have hm5:q5.1≤ts.length:=by rw[hq5];exact hlt
   rw[←hq5]
   simp only[go_sem,n1,n2]
  case' neg=>
   refine bF ts q4 [119,111,114,100] aa rfl N4 N4 a6 (fun h'=>absurd h' h) (fun _=>?_)
   obtain⟨w,hw⟩:∃w,w=false:=⟨_,rfl⟩
   obtain⟨q5,hq5⟩:∃q5:Nat×Bool,q5=q4:=⟨_,rfl⟩
   rw[if_neg h,s6 h,←hw,←hq5] at hp
   have hm5:q5.1≤ts.length:=by rw[hq5];exact hm4
   rw[←hq5]
   simp only[go_sem,n1,n2]
  all_goals
   clear h
   refine aE ts q5 [123] aa rfl N4 N4 a6 (B+51) a6 (fi hf1) ?_
   have hm6:=Src.bY (ts:=ts) (s:=[123]) (q:=q5) a7 hm5
   replace hp:fnE ts t.text ps w (lR ts (kE ts) ([],ah ts [123] q5))=p:=hp
   generalize ah ts [123] q5=q6 at hp hm6 ⊢
   simp only[go_sem,n1,n2]
   refine jQ _ (ft (t:=3) (o:=B+3) (b:=B+29) (j:=2) (sz:=1) (off:=0) (cells:=[.d (.str t.text),cx,.d .nsl,.d (.bool w),.d .nsl]) N4 (by simp only[go_sem,n1,n2,hcx,hw]) rfl a6)
    (fun z st=>∃(j:Nat) (r:RQ (List Str)),z+r.2.1=ts.length∧r.1.length≤r.2.1∧4*rem ts r.2+1≤j∧st.f 0=.one (.ptr 125 (g 125) 0)∧st.f 2=.one (.ptr (B+2) (st.gen (B+2)) 0)∧st.f 3=.one (.ptr (B+3) (st.gen (B+3)) 0)∧(∃a b c d e,st.obj (B+2)=some [a,b,c,d,e])∧
      st.obj (B+3)=some [.d (.str t.text),cx,.osl (B+29) (st.gen (B+29)) 1 0 r.1.length,.d (.bool w),.d .nsl]∧st.obj (B+29)=some (dl r.1)∧st.obj 125=some (rdW ts r.2)∧InF B g ob st.gen st.obj∧(∀i,B+51≤i→st.obj i=none)∧
      fnE ts t.text ps w (lR ts j r)=p) (ts.length-q6.1) ?_ ?_
   ·simp only[St.claimAt]
    refine⟨kE ts,([],q6),by simp only;omega,a7,Src.nl a6 _,?_⟩
    simp only[go_sem,n1,n2]
    exact⟨⟨_,_,_,_,_,rfl,rfl,rfl,rfl,rfl⟩,rfl,(InF.go hin),(fi hf1),hp⟩
   clear hf1 hin hp
   rintro z f g1 ob1 ⟨j,⟨acc,q7⟩,hz,hacc,hj,q0',q2,q3',⟨a,b,c,d,e,o2⟩,o3,o29,o125,hin,hf1,hp⟩
   simp only at hz hacc hj q0' q2 q3' o2 o3 o29 o125 hin hf1
   obtain⟨j,rfl⟩:∃i,j=i+1:=⟨j-1,a6⟩
   rw[lR] at hp
   have hg:=hin.rd
   have hq7:q7.1≤ts.length:=a6
   simp only[go_sem,q0']
   refine bF ts q7 [118,97,114] aa rfl (by simp only[go_sem,n1,n2,hg,q0']) OB a6 (fun h=>?_) (fun h=>?_)
   ·rw[if_pos (show isR ts [118,97,114] ((acc,q7):RQ (List Str)).2 from h)] at hp
    have hlt:=Src.cP h a7
    have hr1:=Src.fS a7 h
    have hcl:=mF acc
    have hcn:=rB ts hl (q7.1+1,false) hlt
    have hmn:=Src.Df (ts:=ts) (q:=(q7.1+1,false)) hlt
    have hrn:=Src.fQ (ts:=ts) (Src.lI (ts:=ts) (q7.1+1,false)) Src.un
    rcases hnn:nR ts (q7.1+1,false) with⟨ls,q8⟩
    rw[hnn] at hcn hmn hrn
    simp only[hnn] at hp
    simp only at hmn hrn
    have hm9:=Src.bY (ts:=ts) (s:=Src.bz) (q:=q8) (by simp[Src.bz]) hmn.2.1
    have hr9:=Src.iu (ts:=ts) (s:=Src.bz) (q:=q8)
    simp only[go_sem,n1,n2,q0']
    refine eE True aQ mixed aa [B+29,125] [([3],[0,1],[],false),([25],[1],[],false),([0],[],[],false),([27],[],[1],false),([26,28],[],[0],false),([3],[0,1],[],false),([30,29],[],[],true)] 2 rfl b0 rfl N7 ?_
    simp only[go_sem]
    (apply az;(case hf=>rfl);(case hg=>first|exact j6|exact⟨_,rfl,by decide,rfl⟩);(case h1=>intro fa ga oa K' hK;simp only[go_sem,n1,n2,q3',o3] at hK ⊢;exact hK))
    (apply az;(case hf=>rfl);(case hg=>first|exact j6|exact⟨_,rfl,by decide,rfl⟩);(case h1=>intro fa ga oa K' hK;simp only[go_sem,n1,n2,q3',o3] at hK ⊢;exact hK))
    (apply az;(case hf=>rfl);(case hg=>first|exact j6|exact⟨_,rfl,by decide,rfl⟩);(case h1=>intro fa ga oa K' hK;simp only[go_sem,q0'] at hK ⊢;exact hK))
    refine eF (v:=jR ls) (y:=some (rdW ts q8)) j6 a7 (fun fa ga oa K' hK=>?_) ?_
    ·simp only[go_sem,n1,n2] at hK ⊢
     refine aA (k:=bx K') aa rfl hcn OA (B+51) a6 (fi hf1) N4 ?_
     exact Ni
    refine dj (a:=0) (v:=.one (.osl (B+29) (nxC (apC 9 (g1 (B+29)) 0) (g1 (B+29))) 1 0 (acc.length+ls.length))) (x:=nxC (apC 9 (g1 (B+29)) 0) (g1 (B+29))) (y:=some (dl (acc++ls))) rfl j6 (fun fa ga oa K' hK=>?_) ?_
    ·simp only[go_sem,n1,n2,jR,o29,hcl,aJ,b7] at hK ⊢
     have e1:List.take acc.length (dl acc)++List.map C.d (List.map (fun s=>([D.str s]:List D)) ls).flatten=dl (acc++ls):=by
      rw[j4 a6,vJ]
      simp[dl]
     exact NQ
    (apply az;(case hf=>rfl);(case hg=>first|exact j6|exact⟨_,rfl,by decide,rfl⟩);(case h1=>intro fa ga oa K' hK;simp only[go_sem,n1,n2,q3',o3] at hK ⊢;exact hK))
    refine eG rfl j6 ?_
    intro K' hK'
    simp only[go_sem,n1,n2,o3]
    refine hK' _ ?_
    clear hK' K'
    simp only[go_sem,n1,n2,q0']
    refine aE ts q8 [59] aa rfl (by simp only[go_sem,n1,n2,hg]) N4 a6 (B+51) a6 (fi hf1) ?_
    rw[show ([59]:Str)=Src.bz from rfl]
    simp only[go_sem,n1,n2]
    refine ar (ts.length-(ah ts Src.bz q8).1) a6 ⟨j,(acc++ls,ah ts Src.bz q8),by simp only;omega,by simp only[c9];omega,by simp only;omega,?_⟩
    simp only[go_sem,n1,n2,q0',q2,q3',c9]
    exact⟨⟨_,_,_,_,_,o2⟩,(InF.go hin),(fi hf1),hp⟩
   ·rw[if_neg (show ¬isR ts [118,97,114] ((acc,q7):RQ (List Str)).2 from h)] at hp
    simp only[go_sem,n1,n2,q0']
    replace hp:FH t.text ps acc w (ssR ts (kE ts) ([],q7))=p:=hp
    refine jQ _ (ft (t:=3) (o:=B+3) (b:=B+48) (j:=4) (sz:=5) (off:=0) (cells:=[.d (.str t.text),cx,.osl (B+29) (g1 (B+29)) 1 0 acc.length,.d (.bool w),.d .nsl]) (by simp only[go_sem,n1,n2,q3']) (by simp only[go_sem,n1,n2,o3]) rfl a6)
     (fun z st=>∃(j:Nat) (r:RQ (List Stm)),z=mea ts r.2∧r.2.1≤ts.length∧r.1.length≤r.2.1+1∧(r.2.2=false→r.1.length≤r.2.1)∧(4*rem ts r.2+2≤j∨r.2.2=true∧1≤j)∧st.f 0=.one (.ptr 125 (g 125) 0)∧st.f 2=.one (.ptr (B+2) (st.gen (B+2)) 0)∧st.f 3=.one (.ptr (B+3) (st.gen (B+3)) 0)∧(∃a b c d e,st.obj (B+2)=some [a,b,c,d,e])∧
       st.obj (B+3)=some [.d (.str t.text),cx,.osl (B+29) (st.gen (B+29)) 1 0 acc.length,.d (.bool w),.osl (B+48) (st.gen (B+48)) 5 0 r.1.length]∧st.obj (B+29)=some (dl acc)∧st.obj (B+48)=some (smC r.1)∧st.obj 125=some (rdW ts r.2)∧InF B g ob st.gen st.obj∧(∀i,B+51≤i→st.obj i=none)∧
       FH t.text ps acc w (ssR ts j r)=p) (mea ts q7) ?_ ?_
    ·simp only[St.claimAt]
     refine⟨kE ts,([],q7),rfl,hq7,a7,fun _=>by simp,.inl (Src.nl a6 _),?_⟩
     simp only[go_sem,n1,n2,q0',q2,q3',o29,o125]
     exact⟨⟨_,_,_,_,_,o2⟩,rfl,(InF.go hin),(fi hf1),hp⟩
    clear hf1 hin hp
    rintro z f g1 ob1 ⟨j,⟨body,⟨n,v⟩⟩,hz,hn,hlb,hlb2,hj,q0',q2,q3',⟨a,b,c,d,e,o2⟩,o3,o29,o48,o125,hin,hf1,hp⟩
    simp only at hz hn hlb hlb2 hj q0' q2 q3' o2 o3 o29 o48 o125 hin hf1
    obtain⟨j,rfl⟩:∃i,j=i+1:=⟨j-1,a6⟩
    rw[ssR] at hp
    have hg:=hin.rd
    have o125':=o125
    unfold rdW bN at o125
    have hfin:∀(s:St) (y:Nat×Bool),s.gen (B+29)=g1 (B+29)→s.gen (B+48)=g1 (B+48)→s.obj (B+29)=some (dl acc)→s.obj (B+48)=some (smC body)→fg B s [.agg [.d (.str t.text),cx,.osl (B+29) (g1 (B+29)) 1 0 acc.length,.d (.bool w),.osl (B+48) (g1 (B+48)) 5 0 body.length]] [fnV ⟨t.text,ps,acc,w,body⟩]:=fun s y e1 e2 e3 e4=>
     ⟨_,_,rfl,.agg (xs:=[.str t.text,.sl (ps.map fun s=>[.str s]),.sl (acc.map fun s=>[.str s]),.bool w,.sl (body.map smD)]) rfl (fun i e he=>by
      match i,he with
      |0,he=>cases he;exact⟨_,rfl,.d _⟩
      |1,he=>cases he;exact⟨_,rfl,hfx _⟩
      |2,he=>cases he;exact⟨_,rfl,vI a6 e1 e3 rfl⟩
      |3,he=>cases he;exact⟨_,rfl,.d _⟩
      | 4,he=>cases he;exact⟨_,rfl,eq a6 e2 body smD e4 rfl (fun a _=>eQ a) rfl⟩),rfl⟩
    cases v with
    |true=>
      rw[if_pos rfl] at hp
      simp only[go_sem,q0',q2,q3',hg,o2,o3,o125,n1,n2]
      refine⟨_,al.refl _,?_⟩
      simp only[go_sem,q2,n1,n2]
      exact InF.retW (r:=(⟨t.text,ps,acc,w,body⟩,n,true)) (enc:=fnV) (InF.go hin) hp.symm N8 (hfin _ (n,true) N4 N4 (by simp only[go_sem,n1,n2,o29]) (by simp only[go_sem,n1,n2,o48])) rfl
    |false=>
      rw[if_neg (c:=((body,n,false):RQ (List Stm)).2.2=true) a7] at hp
      have hj:=hj.resolve_right fun x=>by cases x.1
      simp only[go_sem,q0',q3',hg,o125,n1,n2]
      refine bF ts (n,false) [125] aa rfl (by simp only[go_sem,n1,n2,hg,q0']) N8 Oa (fun h=>?_) (fun h=>?_)
      ·rw[if_pos (show isR ts [125] ((body,n,false):RQ (List Stm)).2 from h)] at hp
       simp only[go_sem,q0',q2,q3',hg,o2,o3,n1,n2]
       refine⟨_,al.refl _,?_⟩
       simp only[go_sem,q2,n1,n2]
       exact InF.retW (r:=(⟨t.text,ps,acc,w,body⟩,n+1,false)) (enc:=fnV) (InF.go hin) hp.symm N4 (hfin _ (n,true) N4 N4 (by simp only[go_sem,n1,n2,o29]) (by simp only[go_sem,n1,n2,o48])) rfl
      rw[if_neg (show ¬isR ts [125] ((body,n,false):RQ (List Stm)).2 from h)] at hp
      have hcl:=vM body
      have hst:=(KS hl j).stmt (n,false) hn a6
      have hms:=Src.EQ (ts:=ts) j (n,false) hn
      have hgo:=uK (ts:=ts) rfl hn (Src.yg (ts:=ts) j (n,false) a6) (Src.kl _ _) hms.2
      have hrs:=tg (ts:=ts) (k:=j) (q:=(n,false)) rfl hj
      have hlb2:=hlb2 rfl
      rcases he:stR ts j (n,false) with⟨e9,q9⟩
      rw[he] at hst hms hgo hrs
      simp only[he] at hp
      simp only at hms hgo hrs
      simp only[go_sem,n1,n2,q0',q3']
      refine eE True aQ mixed aa [125,B+47,B+48] [([3],[0,1,2],[],false),([43],[0,1],[],false),([0],[],[],false),([45],[],[0],false),([46],[],[1],false),([44,47],[],[2],false),([3],[0,1,2],[],false),([49,48],[],[],true)] 3 rfl b0 rfl N7 ?_
      simp only[go_sem]
      (apply az;(case hf=>rfl);(case hg=>first|exact j6|exact⟨_,rfl,by decide,rfl⟩);(case h1=>intro fa ga oa K' hK;simp only[go_sem,n1,n2,q3',o3] at hK ⊢;exact hK))
      (apply az;(case hf=>rfl);(case hg=>first|exact j6|exact⟨_,rfl,by decide,rfl⟩);(case h1=>intro fa ga oa K' hK;simp only[go_sem,n1,n2,q3',o3] at hK ⊢;exact hK))
      (apply az;(case hf=>rfl);(case hg=>first|exact j6|exact⟨_,rfl,by decide,rfl⟩);(case h1=>intro fa ga oa K' hK;simp only[go_sem,q0'] at hK ⊢;exact hK))
      refine eF (v:=smV e9) (y:=some (rdW ts q9)) j6 a7 (fun fa ga oa K' hK=>?_) ?_
      ·simp only[go_sem,n1,n2] at hK ⊢
       refine aA (k:=bx K') aa rfl hst OA (B+51) a6 (fi hf1) N8 ?_
       exact Ni
      (apply dj;(case hf=>rfl);(case hg=>first|exact j6|exact⟨_,rfl,by decide,rfl⟩);(case h1=>intro fa ga oa K' hK;simp only[go_sem,smV,eQ,b7,n1,n2] at hK ⊢;exact hK))
      have e1:List.take (body.length*5) (smC body)++List.take 5 (List.map C.d (smD e9))=smC (body++[e9]):=by
       rw[j4 a6,vO,vN,j4 (by simp[eQ])]
      refine dj (a:=2) (v:=.one (.osl (B+48) (nxC (apC 167 (g1 (B+48)) 0) (g1 (B+48))) 5 0 (body.length+1))) (x:=nxC (apC 167 (g1 (B+48)) 0) (g1 (B+48))) (y:=some (smC (body++[e9]))) rfl j6 (fun fa ga oa K' hK=>?_) ?_
      ·simp only[go_sem,n1,n2,o48,hcl,eQ,b7,aJ] at hK ⊢
       rw[e1]
       exact⟨a6,⟨a8,a6⟩,hK⟩
      (apply az;(case hf=>rfl);(case hg=>first|exact j6|exact⟨_,rfl,by decide,rfl⟩);(case h1=>intro fa ga oa K' hK;simp only[go_sem,n1,n2,q3',o3] at hK ⊢;exact hK))
      refine eG rfl j6 ?_
      intro K' hK'
      simp only[go_sem,n1,n2,o3]
      refine hK' _ ?_
      clear hK' K'
      simp only[go_sem,n1,n2]
      refine ar (mea ts q9) (by rw[hz];exact hgo.1) ⟨j,(body++[e9],q9),rfl,hms.2,by simp only[c9];simp;omega,fun hw=>by have:=hgo.2 hw;simp only[c9];simp;omega,hrs,?_⟩
      simp only[go_sem,n1,n2,q0',q2,q3',o29,c9,e8,n9]
      exact⟨⟨_,_,_,_,_,o2⟩,(InF.go hin),(fi hf1),hp⟩
end
end Go.Proofs.YtphohejoiocikaaGreatDoor

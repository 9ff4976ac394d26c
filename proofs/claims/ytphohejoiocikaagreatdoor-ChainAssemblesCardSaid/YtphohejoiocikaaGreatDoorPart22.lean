/- A part of the proof; no conditions. -/
import Derived.Test.YtphohejoiocikaaGreatDoorPart21
set_option linter.unusedSimpArgs false
set_option linter.unusedVariables false
set_option maxHeartbeats 64000000
set_option maxRecDepth 100000
namespace Go.Proofs.YtphohejoiocikaaGreatDoor
section
attribute [local congr] Go.Am.ite_cc
open Go Go.Am Go.Asm
open Go.Src (aY ae takeN Ex Stm RQ isR ah bg kM eR loR aR gR goR kE rem cR stR bR ssR nmR nsR)
section
variable {ts:List Src.Tok}{q:Nat×Bool}{k:Nat}
theorem lX (hl:ts.length≤100000) (hq:q.1≤ts.length):iX 147 [iv .i64 1] ts q (eR ts (kE ts) 1 q) exV:=
 (JA hl (kE ts)).expr 1 q a6 a6 hq (by unfold Src.kE Src.rem;split <;> omega)
theorem Cd (hl:ts.length≤100000) (hq:q.1≤ts.length):iX 149 [] ts q (gR ts (kE ts) q) df:=
 (JA hl (kE ts)).args q hq (by unfold Src.kE Src.rem;split <;> omega)
theorem uJ (hl:ts.length≤100000) (hq:q.1≤ts.length):iX 146 [] ts q (cR ts q) df:=by
 intro B g ob hB hf ho
 obtain⟨p,hp⟩:∃p,cR ts q=p:=⟨_,rfl⟩
 rw[hp]
 unfold cR at hp
 refine ck.toR (hdM B [125] Tryz.func146 rfl [.tmp 2] N7 hf fun b₀ β0 s0 w0=>?_)
 have n1:=nlo hB
 have n2:=nhi hB
 have hin:InF B g ob g ob:=InF.refl
 have hf1:=hf
 simp only[go_sem,n1,n2]
 refine aE ts q [40] aa rfl N4 N6 a6 (B+12) a6 (fi hf1) ?_
 have hm:=Src.bY (ts:=ts) (s:=Src.aW) (q:=q) (by simp[Src.aW]) hq
 have hc:=lX hl hm.2
 have hm2:=Src.jL (ts:=ts) (kE ts) 1 _ a6 hm.2
 rcases he:eR ts (kE ts) 1 (ah ts Src.aW q) with⟨⟨ek,eo,en,es,ekd⟩,q1⟩
 rw[he] at hc hm2
 simp only[he] at hp
 simp only at hm2
 simp only[go_sem,n1,n2]
 refine aA aa rfl hc N5 (B+12) a6 (fi hf1) (by simp only[go_sem,n1,n2];rfl) ?_
 simp only[go_sem,n1,n2,exV,exD]
 refine aE ts q1 [41] aa rfl N4 N4 a6 (B+12) a6 (fi hf1) ?_
 simp only[go_sem,n1,n2]
 refine⟨_,al.refl _,?_⟩
 simp only[go_sem,n1,n2]
 exact InF.retW (r:=([.mk ek eo en es ekd],ah ts [41] q1)) (enc:=df) (InF.go hin) hp.symm N4 (vL a6 N4 OE rfl) rfl
structure StW (ts:List Src.Tok) (k:Nat):Prop where
 stmt:∀(q:Nat×Bool),q.1≤ts.length→4*rem ts q+1≤k→iX 101 [] ts q (stR ts k q) smV
 body:∀(q:Nat×Bool),q.1≤ts.length→4*rem ts q+3≤k→iX 148 [] ts q (bR ts k q) dM
theorem FF (hl:ts.length≤100000) (ih:StW ts k) (hq:q.1≤ts.length) (hk:4*rem ts q+1≤k+1):iX 101 [] ts q (stR ts (k+1) q) smV:=by
 intro B g ob hB hf ho
 obtain⟨p,hp⟩:∃p,stR ts (k+1) q=p:=⟨_,rfl⟩
 rw[hp]
 rw[stR] at hp
 refine ck.toR (hdM B [125] Tryz.func101 rfl [.cell 2 167] N7 hf fun b₀ β0 s0 w0=>?_)
 have n1:=nlo hB
 have n2:=nhi hB
 have hin:InF B g ob g ob:=InF.refl
 have hf1:=hf
 simp only[go_sem,n1,n2]
 refine bF ts q [112,117,116] aa rfl N4 N6 a6 (fun h=>?_) (fun h=>?_)
 ·rw[if_pos h] at hp
  have hlt:=Src.cP h a7
  have hc:=uJ hl (q:=(q.1+1,false)) hlt
  have hm:=Src.yj (ts:=ts) (q:=(q.1+1,false)) hlt
  rcases he:cR ts (q.1+1,false) with⟨l,q1⟩
  rw[he] at hc hm
  simp only[he] at hp
  simp only at hm
  simp only[go_sem,n1,n2]
  refine aA aa rfl hc N5 (B+101) a6 (fi hf1) N4 ?_
  simp only[go_sem,n1,n2,df]
  refine aE ts q1 [59] aa rfl N4 N4 a6 (B+101) a6 (fi hf1) ?_
  simp only[go_sem,n1,n2]
  refine⟨_,al.refl _,?_⟩
  simp only[go_sem,n1,n2]
  exact InF.retW (r:=(.mk 3 [] l [] [],ah ts [59] q1)) (enc:=smV) (InF.go hin) hp.symm N4 (lM (.d _) .nil .nil) (by simp[pack,smV,smD,nG,bw])
 rw[if_neg h] at hp
 simp only[go_sem,n1,n2]
 refine bF ts q [114,101,116,117,114,110] aa rfl N4 N6 a6 (fun h=>?_) (fun h=>?_)
 ·rw[if_pos h] at hp
  have hlt:=Src.cP h a7
  simp only[go_sem,n1,n2]
  refine bF ts (q.1+1,false) [59] aa rfl N4 N4 Oa (fun h=>?_) (fun h=>?_)
  ·rw[if_pos (show isR ts Src.bz (q.1+1,false) from h)] at hp
   simp only[go_sem,n1,n2]
   refine⟨_,al.refl _,?_⟩
   simp only[go_sem,n1,n2]
   exact InF.retW (r:=(.mk 7 [] [] [] [],q.1+1+1,false)) (enc:=smV) (InF.go hin) hp.symm N4 (lM .nil .nil .nil) (by simp[pack,smV,smD,nG,kQ])
  rw[if_neg (show ¬isR ts Src.bz (q.1+1,false) from h)] at hp
  have hc:=lX hl (q:=(q.1+1,false)) hlt
  have hm:=Src.jL (ts:=ts) (kE ts) 1 (q.1+1,false) a6 hlt
  rcases he:eR ts (kE ts) 1 (q.1+1,false) with⟨e,q1⟩
  rw[he] at hc hm
  simp only[he] at hp
  simp only at hm
  simp only[go_sem,n1,n2]
  refine aA aa rfl hc N5 (B+101) a6 (fi hf1) N4 ?_
  simp only[go_sem,n1,n2,exV,aK,b7]
  refine aE ts q1 [59] aa rfl N4 N4 a6 (B+101) a6 (fi hf1) ?_
  simp only[go_sem,n1,n2]
  refine⟨_,al.refl _,?_⟩
  simp only[go_sem,n1,n2]
  exact InF.retW (r:=(.mk 7 [] [e] [] [],ah ts [59] q1)) (enc:=smV) (InF.go hin) hp.symm N4 (lM (kh (l:=[e]) a6 N4 (by simp only[go_sem,n1,n2,nS]) rfl) .nil .nil) (by simp[pack,smV,smD,nG])
 rw[if_neg h] at hp
 simp only[go_sem,n1,n2]
 refine bF ts q [105,102] aa rfl N4 N6 a6 (fun h=>?_) (fun h=>?_)
 ·rw[if_pos h] at hp
  have hlt:=Src.cP h a7
  have hr0:=Src.fS a7 h
  have hc:=uJ hl (q:=(q.1+1,false)) hlt
  have hm:=Src.yj (ts:=ts) (q:=(q.1+1,false)) hlt
  have hr1:=Src.fQ (ts:=ts) (Src.lH (ts:=ts) (q.1+1,false)) Src.yf
  rcases he:cR ts (q.1+1,false) with⟨l,q1⟩
  rw[he] at hc hm hr1
  simp only[he] at hp
  simp only at hm hr1
  have hcb:=ih.body q1 hm.2 a6
  have hmb:=Src.yk (ts:=ts) k q1 hm.2
  have hrb:=Src.fQ (ts:=ts) (Src.rb (ts:=ts) k q1 a6) (Src.iB _ _)
  rcases he2:bR ts k q1 with⟨th,q2⟩
  rw[he2] at hcb hmb hrb
  simp only[he2] at hp
  simp only at hmb hrb
  simp only[go_sem,n1,n2]
  refine aA aa rfl hc N5 (B+101) a6 (fi hf1) N4 ?_
  simp only[go_sem,n1,n2,df]
  refine aA aa rfl hcb N5 (B+101) a6 (fi hf1) N4 ?_
  simp only[go_sem,n1,n2,dM]
  refine bF ts q2 [101,108,115,101] aa rfl N4 N4 a6 (fun h=>?_) (fun h=>?_)
  ·rw[if_pos h] at hp
   have hlt2:=Src.cP h a7
   have hr3:=Src.fS a7 h
   have hce:=ih.body (q2.1+1,false) hlt2 a6
   rcases he3:bR ts k (q2.1+1,false) with⟨el,q3⟩
   rw[he3] at hce
   simp only[he3] at hp
   simp only[go_sem,n1,n2]
   refine aA aa rfl hce N5 (B+101) a6 (fi hf1) N4 ?_
   simp only[go_sem,n1,n2,dM]
   refine⟨_,al.refl _,?_⟩
   simp only[go_sem,n1,n2]
   exact InF.retW (r:=(.mk 4 [] l th el,q3)) (enc:=smV) (InF.go hin) hp.symm N4 (lM (.d _) (.d _) (.d _)) O8
  rw[if_neg h] at hp
  simp only[go_sem,n1,n2]
  refine⟨_,al.refl _,?_⟩
  simp only[go_sem,n1,n2]
  exact InF.retW (r:=(.mk 4 [] l th [],q2)) (enc:=smV) (InF.go hin) hp.symm N4 (lM (.d _) (.d _) .nil) O8
 rw[if_neg h] at hp
 simp only[go_sem,n1,n2]
 refine bF ts q [119,104,105,108,101] aa rfl N4 N6 a6 (fun h=>?_) (fun h=>?_)
 ·rw[if_pos h] at hp
  have hlt:=Src.cP h a7
  have hr0:=Src.fS a7 h
  have hc:=uJ hl (q:=(q.1+1,false)) hlt
  have hm:=Src.yj (ts:=ts) (q:=(q.1+1,false)) hlt
  have hr1:=Src.fQ (ts:=ts) (Src.lH (ts:=ts) (q.1+1,false)) Src.yf
  rcases he:cR ts (q.1+1,false) with⟨l,q1⟩
  rw[he] at hc hm hr1
  simp only[he] at hp
  simp only at hm hr1
  have hcb:=ih.body q1 hm.2 a6
  rcases he2:bR ts k q1 with⟨th,q2⟩
  rw[he2] at hcb
  simp only[he2] at hp
  simp only[go_sem,n1,n2]
  refine aA aa rfl hc N5 (B+101) a6 (fi hf1) N4 ?_
  simp only[go_sem,n1,n2,df]
  refine aA aa rfl hcb N5 (B+101) a6 (fi hf1) N4 ?_
  simp only[go_sem,n1,n2,dM]
  refine⟨_,al.refl _,?_⟩
  simp only[go_sem,n1,n2]
  exact InF.retW (r:=(.mk 5 [] l th [],q2)) (enc:=smV) (InF.go hin) hp.symm N4 (lM (.d _) (.d _) .nil) O8
 rw[if_neg h] at hp
 simp only[go_sem,n1,n2]
 refine aA aa rfl (gG ts q 1 a8 a6) N5 (B+101) a6 (fi hf1) N6 ?_
 have hmt:=Src.kf (ts:=ts) (k:=1) a8 hq
 unfold nmR nsR at hp
 rcases ht:bg ts 1 q with⟨t,q0⟩
 rw[ht] at hmt
 simp only[ht] at hp
 simp only at hmt
 unfold fM fB
 simp only[go_sem,n1,n2]
 refine bF ts q0 [40] aa rfl N4 N4 a6 (fun h=>?_) (fun h=>?_)
 ·rw[if_pos (show isR ts Src.aW q0 from h)] at hp
  have hlt:=Src.cP h a7
  have hc:=Cd hl (q:=(q0.1+1,false)) hlt
  have hm:=Src.De (ts:=ts) (kE ts) (q0.1+1,false) hlt
  rcases he:gR ts (kE ts) (q0.1+1,false) with⟨l,q1⟩
  rw[he] at hc hm
  simp only[he] at hp
  simp only at hm
  simp only[go_sem,n1,n2]
  refine aA aa rfl hc N5 (B+101) a6 (fi hf1) N4 ?_
  simp only[go_sem,n1,n2,df]
  refine aE ts q1 [59] aa rfl N4 N4 a6 (B+101) a6 (fi hf1) ?_
  simp only[go_sem,n1,n2]
  refine⟨_,al.refl _,?_⟩
  simp only[go_sem,n1,n2]
  exact InF.retW (r:=(.mk 6 t.text l [] [],ah ts [59] q1)) (enc:=smV) (InF.go hin) hp.symm N4 (lM (.d _) .nil .nil) (by simp[pack,smV,smD,nG,bw])
 rw[if_neg (show ¬isR ts Src.aW q0 from h)] at hp
 simp only[go_sem,n1,n2]
 refine bF ts q0 [91] aa rfl N4 N4 a6 (fun h=>?_) (fun h=>?_)
 ·rw[if_pos h] at hp
  have hlt:=Src.cP h a7
  have hc:=lX hl (q:=(q0.1+1,false)) hlt
  have hm:=Src.jL (ts:=ts) (kE ts) 1 (q0.1+1,false) a6 hlt
  rcases he:eR ts (kE ts) 1 (q0.1+1,false) with⟨⟨ek,eo,en,es,ekd⟩,q1⟩
  rw[he] at hc hm
  simp only[he] at hp
  simp only at hm
  simp only[go_sem,n1,n2]
  refine eE True aQ mixed aa [125,B+84,B+85] [([7],[0,1,2],[],false),([80],[0,1],[],false),([0],[],[],false),([82],[],[0],false),([83],[],[1],false),([81,84],[],[2],false),([7],[0,1,2],[],false),([86,85],[],[],true)] 3 rfl b0 rfl N7 ?_
  simp only[go_sem]
  (apply az;(case hf=>rfl);(case hg=>first|exact j6|exact⟨_,rfl,by decide,rfl⟩);(case h1=>intro fa ga oa K' hK;simp only[go_sem,n1,n2] at hK ⊢;exact hK))
  (apply az;(case hf=>rfl);(case hg=>first|exact j6|exact⟨_,rfl,by decide,rfl⟩);(case h1=>intro fa ga oa K' hK;simp only[go_sem,n1,n2] at hK ⊢;exact hK))
  (apply az;(case hf=>rfl);(case hg=>first|exact j6|exact⟨_,rfl,by decide,rfl⟩);(case h1=>intro fa ga oa K' hK;simp only[go_sem,n1,n2] at hK ⊢;exact hK))
  refine eF (v:=exV (.mk ek eo en es ekd)) (y:=some (rdW ts q1)) j6 a7 (fun fa ga oa K' hK=>?_) ?_
  ·simp only[go_sem,n1,n2] at hK ⊢
   refine aA (k:=bx K') aa rfl hc N5 (B+101) a6 (fi hf1) N4 ?_
   exact Ni
  (apply dj;(case hf=>rfl);(case hg=>first|exact j6|exact⟨_,rfl,by decide,rfl⟩);(case h1=>intro fa ga oa K' hK;simp only[go_sem,exV,exD,n1,n2] at hK ⊢;exact hK))
  (apply dj;(case hf=>rfl);(case hg=>exact j6);(case h1=>intro fa ga oa K' hK;simp only[go_sem,n1,n2] at hK ⊢;exact⟨⟨a8,a8⟩,hK⟩))
  (apply az;(case hf=>rfl);(case hg=>first|exact j6|exact⟨_,rfl,by decide,rfl⟩);(case h1=>intro fa ga oa K' hK;simp only[go_sem,n1,n2] at hK ⊢;exact hK))
  refine eG rfl j6 ?_
  intro K' hK'
  simp only[go_sem,n1,n2]
  refine hK' _ ?_
  clear hK' K'
  simp only[go_sem,n1,n2]
  refine aE ts q1 [93] aa rfl N4 N4 a6 (B+101) a6 (fi hf1) ?_
  have hm2:=Src.bY (ts:=ts) (s:=[93]) (q:=q1) a7 hm.2
  simp only[go_sem,n1,n2]
  refine aE ts (ah ts [93] q1) [61] aa rfl N4 N4 a6 (B+101) a6 (fi hf1) ?_
  have hm3:=Src.bY (ts:=ts) (s:=[61]) (q:=ah ts [93] q1) a7 hm2.2
  have hc2:=lX hl (q:=ah ts [61] (ah ts [93] q1)) hm3.2
  have hm4:=Src.jL (ts:=ts) (kE ts) 1 (ah ts [61] (ah ts [93] q1)) a6 hm3.2
  rcases he2:eR ts (kE ts) 1 (ah ts [61] (ah ts [93] q1)) with⟨⟨fk,fo,fn,fs,fkd⟩,q2⟩
  rw[he2] at hc2 hm4
  simp only[he2] at hp
  simp only at hm4
  simp only[go_sem,n1,n2]
  refine eE True aQ mixed aa [125,B+95,B+85] [([7],[0,1,2],[],false),([91],[0,1],[],false),([0],[],[],false),([93],[],[0],false),([94],[],[1],false),([92,95],[],[2],false),([7],[0,1,2],[],false),([97,96],[],[],true)] 3 rfl b0 rfl N7 ?_
  simp only[go_sem]
  (apply az;(case hf=>rfl);(case hg=>first|exact j6|exact⟨_,rfl,by decide,rfl⟩);(case h1=>intro fa ga oa K' hK;simp only[go_sem,n1,n2] at hK ⊢;exact hK))
  (apply az;(case hf=>rfl);(case hg=>first|exact j6|exact⟨_,rfl,by decide,rfl⟩);(case h1=>intro fa ga oa K' hK;simp only[go_sem,n1,n2] at hK ⊢;exact hK))
  (apply az;(case hf=>rfl);(case hg=>first|exact j6|exact⟨_,rfl,by decide,rfl⟩);(case h1=>intro fa ga oa K' hK;simp only[go_sem,n1,n2] at hK ⊢;exact hK))
  refine eF (v:=exV (.mk fk fo fn fs fkd)) (y:=some (rdW ts q2)) j6 a7 (fun fa ga oa K' hK=>?_) ?_
  ·exact MN
  (apply dj;(case hf=>rfl);(case hg=>first|exact j6|exact⟨_,rfl,by decide,rfl⟩);(case h1=>intro fa ga oa K' hK;simp only[go_sem,exV,exD,n1,n2] at hK ⊢;exact hK))
  (apply dj;(case hf=>rfl);(case hg=>exact j6);(case h1=>intro fa ga oa K' hK;simp only[go_sem,n1,n2] at hK ⊢;exact⟨⟨a8,a8⟩,hK⟩))
  (apply az;(case hf=>rfl);(case hg=>first|exact j6|exact⟨_,rfl,by decide,rfl⟩);(case h1=>intro fa ga oa K' hK;simp only[go_sem,n1,n2] at hK ⊢;exact hK))
  refine eG rfl j6 ?_
  intro K' hK'
  simp only[go_sem,n1,n2]
  refine hK' _ ?_
  clear hK' K'
  simp only[go_sem,n1,n2]
  refine aE ts q2 [59] aa rfl N4 N4 a6 (B+101) a6 (fi hf1) ?_
  simp only[go_sem,n1,n2]
  refine⟨_,al.refl _,?_⟩
  simp only[go_sem,n1,n2]
  exact InF.retW (r:=(.mk 2 t.text [.mk ek eo en es ekd,.mk fk fo fn fs fkd] [] [],ah ts [59] q2)) (enc:=smV) (InF.go hin) hp.symm N4 (lM (kh (l:=[.mk ek eo en es ekd,.mk fk fo fn fs fkd]) a6 N4 OE rfl) .nil .nil) (by simp[pack,smV,smD,nG])
 rw[if_neg h] at hp
 simp only[go_sem,n1,n2]
 refine aE ts q0 [61] aa rfl N4 N4 a6 (B+101) a6 (fi hf1) ?_
 have hm3:=Src.bY (ts:=ts) (s:=[61]) (q:=q0) a7 hmt.2
 have hc2:=lX hl (q:=ah ts [61] q0) hm3.2
 have hm4:=Src.jL (ts:=ts) (kE ts) 1 (ah ts [61] q0) a6 hm3.2
 rcases he2:eR ts (kE ts) 1 (ah ts [61] q0) with⟨⟨fk,fo,fn,fs,fkd⟩,q2⟩
 rw[he2] at hc2 hm4
 simp only[he2] at hp
 simp only at hm4
 simp only[go_sem,n1,n2]
 refine eE True aQ mixed aa [125,B+66,B+67] [([7],[0,1,2],[],false),([62],[0,1],[],false),([0],[],[],false),([64],[],[0],false),([65],[],[1],false),([63,66],[],[2],false),([7],[0,1,2],[],false),([68,67],[],[],true)] 3 rfl b0 rfl N7 ?_
 simp only[go_sem]
 (apply az;(case hf=>rfl);(case hg=>first|exact j6|exact⟨_,rfl,by decide,rfl⟩);(case h1=>intro fa ga oa K' hK;simp only[go_sem,n1,n2] at hK ⊢;exact hK))
 (apply az;(case hf=>rfl);(case hg=>first|exact j6|exact⟨_,rfl,by decide,rfl⟩);(case h1=>intro fa ga oa K' hK;simp only[go_sem,n1,n2] at hK ⊢;exact hK))
 (apply az;(case hf=>rfl);(case hg=>first|exact j6|exact⟨_,rfl,by decide,rfl⟩);(case h1=>intro fa ga oa K' hK;simp only[go_sem,n1,n2] at hK ⊢;exact hK))
 refine eF (v:=exV (.mk fk fo fn fs fkd)) (y:=some (rdW ts q2)) j6 a7 (fun fa ga oa K' hK=>?_) ?_
 ·exact MN
 (apply dj;(case hf=>rfl);(case hg=>first|exact j6|exact⟨_,rfl,by decide,rfl⟩);(case h1=>intro fa ga oa K' hK;simp only[go_sem,exV,exD,n1,n2] at hK ⊢;exact hK))
 (apply dj;(case hf=>rfl);(case hg=>exact j6);(case h1=>intro fa ga oa K' hK;simp only[go_sem,n1,n2] at hK ⊢;exact⟨⟨a8,a8⟩,hK⟩))
 (apply az;(case hf=>rfl);(case hg=>first|exact j6|exact⟨_,rfl,by decide,rfl⟩);(case h1=>intro fa ga oa K' hK;simp only[go_sem,n1,n2] at hK ⊢;exact hK))
 refine eG rfl j6 ?_
 intro K' hK'
 simp only[go_sem,n1,n2]
 refine hK' _ ?_
 clear hK' K'
 simp only[go_sem,n1,n2]
 refine aE ts q2 [59] aa rfl N4 N4 a6 (B+101) a6 (fi hf1) ?_
 simp only[go_sem,n1,n2]
 refine⟨_,al.refl _,?_⟩
 simp only[go_sem,n1,n2]
 exact InF.retW (r:=(.mk 1 t.text [.mk fk fo fn fs fkd] [] [],ah ts [59] q2)) (enc:=smV) (InF.go hin) hp.symm N4 (lM (kh (l:=[.mk fk fo fn fs fkd]) a6 N4 OE rfl) .nil .nil) (by simp[pack,smV,smD,nG])
def mea (ts:List Src.Tok) (q:Nat×Bool):Nat:=if q.2=true then 0 else ts.length-q.1+1
theorem uK {α:Type}{p:Src.PR α}{r:RQ α} (hw:q.2=false) (hn:q.1≤ts.length) (h:Src.Goes q p r) (hp:p.Fwd q.1) (hm:r.2.1≤ts.length):mea ts r.2<mea ts q∧(r.2.2=false→q.1+1≤r.2.1):=by
 unfold mea
 rw[if_neg (c:=q.2=true) (by simp[hw])]
 by_cases hr:r.2.2=true
 ·rw[if_pos hr];exact⟨a6,fun h=>by rw[hr] at h;cases h⟩
 ·have:=hp _ _ (h.ok (by simpa using hr)).2
  rw[if_neg hr]
  exact⟨a6,fun _=>this⟩
theorem tg (hw:q.2=false) (hk:4*rem ts q+2≤k+1):4*rem ts (stR ts k q).2+2≤k∨(stR ts k q).2.2=true∧1≤k:=by
 have hg:=Src.yg (ts:=ts) k q a6
 by_cases hr:(stR ts k q).2.2=true
 ·exact .inr ⟨hr,a6⟩
 refine .inl ?_
 have h2:=(hg.ok (by simpa using hr)).2
 have h3:=Src.kl _ _ _ _ h2
 have h4:=Src.pG _ _ _ _ h2
 unfold Src.rem at hk ⊢
 rw[if_neg (by simp[hw])] at hk
 rw[if_neg hr]
 omega
theorem FG (hl:ts.length≤100000) (ih:∀j,j≤k→StW ts j) (hq:q.1≤ts.length) (hk:4*rem ts q+3≤k+1):iX 148 [] ts q (bR ts (k+1) q) dM:=by
 intro B g ob hB hf ho
 obtain⟨p,hp⟩:∃p,bR ts (k+1) q=p:=⟨_,rfl⟩
 rw[hp]
 rw[bR] at hp
 refine ck.toR (hdM B [125] Tryz.func148 rfl [.tmp 2] N7 hf fun b₀ β0 s0 w0=>?_)
 have n1:=nlo hB
 have n2:=nhi hB
 have hin:InF B g ob g ob:=InF.refl
 have hf1:=hf
 simp only[go_sem,n1,n2]
 refine aE ts q [123] aa rfl N4 N6 a6 (B+22) a6 (fi hf1) ?_
 have hm:=Src.bY (ts:=ts) (s:=[123]) (q:=q) a7 hq
 have hr:=Src.iu (ts:=ts) (s:=[123]) (q:=q)
 simp only[go_sem,n1,n2]
 refine jQ _ (qJ (t:=3) (id:=B+20) (sz:=5) N9) (fun z st=>∃(j:Nat) (r:RQ (List Stm)),z=mea ts r.2∧r.2.1≤ts.length∧r.1.length≤r.2.1+1∧(r.2.2=false→r.1.length≤r.2.1)∧(4*rem ts r.2+2≤j∨r.2.2=true∧1≤j)∧j≤k∧st.f 0=.one (.ptr 125 (g 125) 0)∧st.f 3=.one (.osl (B+20) (st.gen (B+20)) 5 0 r.1.length)∧st.obj (B+20)=some (smC r.1)∧st.obj 125=some (rdW ts r.2)∧InF B g ob st.gen st.obj∧(∀i,B+22≤i→st.obj i=none)∧ssR ts j r=p) (mea ts (ah ts [123] q)) ?_ ?_
 ·refine⟨k,([],ah ts [123] q),rfl,hm.2,a7,fun _=>by simp,.inl Oa,b9 _,?_⟩
  simp only[St.grab]
  simp only[go_sem,n1,n2]
  exact⟨rfl,(InF.go hin),(fi hf1),hp⟩
 clear hf1 hin hp
 rintro z f g1 ob1 ⟨j,⟨acc,⟨n,w⟩⟩,hz,hn,hacc,hacc2,hj,hjk,q0,q3,o20,o125,hin,hf1,hp⟩
 simp only at hz hn hacc hacc2 hj q0 q3 o20 o125 hin hf1
 obtain⟨j,rfl⟩:∃i,j=i+1:=⟨j-1,a6⟩
 rw[ssR] at hp
 have hg:=hin.rd
 have o125':=o125
 unfold rdW bN at o125
 cases w with
 |true=>
   rw[if_pos rfl] at hp
   simp only[go_sem,q0,q3,hg,o125,n1,n2]
   refine⟨_,al.refl _,?_⟩
   simp only[go_sem,q3,n1,n2]
   exact InF.retW (r:=(acc,n,true)) (enc:=dM) (InF.go hin) hp.symm N8 (vP a6 N4 (by simp only[go_sem,n1,n2,o20]) rfl) rfl
 |false=>
   rw[if_neg (c:=((acc,n,false):RQ (List Stm)).2.2=true) a7] at hp
   have hj:=hj.resolve_right fun x=>by cases x.1
   simp only[go_sem,q0,q3,hg,o125,n1,n2]
   refine bF ts (n,false) [125] aa rfl Oc N8 Oa (fun h=>?_) (fun h=>?_)
   ·rw[if_pos (show isR ts [125] ((acc,n,false):RQ (List Stm)).2 from h)] at hp
    simp only[go_sem,n1,n2,q0,q3]
    refine⟨_,al.refl _,?_⟩
    simp only[go_sem,n1,n2,q3]
    exact InF.retW (r:=(acc,n+1,false)) (enc:=dM) (InF.go hin) hp.symm N4 (vP a6 N4 (by simp only[go_sem,n1,n2,o20]) rfl) rfl
   rw[if_neg (show ¬isR ts [125] ((acc,n,false):RQ (List Stm)).2 from h)] at hp
   have hcl:=vM acc
   have hst:=(ih j a6).stmt (n,false) hn a6
   have hms:=Src.EQ (ts:=ts) j (n,false) hn
   have hgo:=uK (ts:=ts) rfl hn (Src.yg (ts:=ts) j (n,false) a6) (Src.kl _ _) hms.2
   have hrs:=tg (ts:=ts) (k:=j) (q:=(n,false)) rfl hj
   have hacc2:=hacc2 rfl
   rcases he:stR ts j (n,false) with⟨e,q2⟩
   rw[he] at hst hms hgo hrs
   simp only[he] at hp
   simp only at hms hgo hrs
   simp only[go_sem,n1,n2,q0,q3]
   refine aA aa rfl hst Ol (B+22) a6 (fi hf1) N8 ?_
   simp only[go_sem,n1,n2,smV,eQ,b7,q0,q3,o20,hcl,aJ]
   refine⟨a6,⟨a8,a6⟩,?_⟩
   refine ar (mea ts q2) (by rw[hz];exact hgo.1) ⟨j,(acc++[e],q2),rfl,hms.2,by simp only[c9];simp;omega,fun hw=>by have:=hgo.2 hw;simp only[c9];simp;omega,hrs,a6,?_⟩
   simp only[go_sem,n1,n2,q0,q3,c9]
   refine⟨?_,(InF.go hin),(fi hf1),hp⟩
   rw[j4 a6,vO,vN,j4 (by simp[eQ])]
theorem KS (hl:ts.length≤100000) (k:Nat):StW ts k:=by
 induction k using Nat.strongRecOn with
 |ind k ih=>
   cases k with
   |zero=>exact⟨fun _ _ h=>absurd h a6,fun _ _ h=>absurd h a6⟩
   |succ k=>exact⟨fun q h1 h2=>FF hl (ih k a6) h1 h2,fun q h1 h2=>FG hl (fun j hj=>ih j a6) h1 h2⟩
end
end
end Go.Proofs.YtphohejoiocikaaGreatDoor

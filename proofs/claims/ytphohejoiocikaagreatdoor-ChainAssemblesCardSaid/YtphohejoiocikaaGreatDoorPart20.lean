/- A part of the proof; no conditions. -/
import Derived.Test.YtphohejoiocikaaGreatDoorPart19
set_option linter.unusedSimpArgs false
set_option linter.unusedVariables false
set_option maxHeartbeats 64000000
set_option maxRecDepth 100000
namespace Go.Am
section
attribute [local congr] Go.Am.ite_cc
section
section steps
variable {S:Sp}{T:Nat→TI}{ops:Array Oper}{ids:List Nat}{z:Prop}{f:Nat→AV}{g:Nat→Nat}{ob:Nat→Option (List C)}{K:St→Prop}{k:Box K}{op:Op}{ty:TypeId}{ps:String}{af:Array Edge}{gd:Option (Nat×Bool)}{d:Nat}{rd hd:List Nat}{r:List Ent}
theorem uH {v:AV} (hz:z) (hg:GdE ops ⟨⟨some d,op,ty,ps,af,gd⟩,rd,hd,[],false⟩ ⟨f,g,ob⟩) (h1:∀(fa:Nat→AV) (ga:Nat→Nat) (oa:Nat→Option (List C)) (K':St→Prop),K' ⟨upd (maskf rd f fa) d v,maskm ids hd g ga,maskm ids hd ob oa⟩→opA S T ⟨some d,op,ty,ps,af,gd⟩ ⟨maskf rd f fa,maskm ids hd g ga,maskm ids hd ob oa⟩ (bx K'))
  (h2:cg S T ops ids z r ⟨upd f d v,g,ob⟩ k):cg S T ops ids z (⟨⟨some d,op,ty,ps,af,gd⟩,rd,hd,[],false⟩::r) ⟨f,g,ob⟩ k:=by
 unfold cg
 exact⟨v,[],⟨rfl,fun fa ga oa K' hK=>h1 fa ga oa K' (hK fun _=>hz),hg⟩,h2⟩
end steps
end
end
end Go.Am
namespace Go.Proofs.YtphohejoiocikaaGreatDoor
section
attribute [local congr] Go.Am.ite_cc
open Go Go.Am Go.Asm
open Go.Src (aY ae takeN Ex Stm RQ isR ah bg kM eR loR aR gR goR kE rem)
section
structure ExW (ts:List Src.Tok) (k:Nat):Prop where
 expr:∀(least:Nat) (q:Nat×Bool),1≤least→least≤10→q.1≤ts.length→13*rem ts q+12≤k+least→iX 147 [iv .i64 least] ts q (eR ts k least q) exV
 atom:∀(q:Nat×Bool),q.1≤ts.length→13*rem ts q+1≤k→iX 187 [] ts q (aR ts k q) exV
 args:∀(q:Nat×Bool),q.1≤ts.length→13*rem ts q+12≤k→iX 149 [] ts q (gR ts k q) df
variable {ts:List Src.Tok}{q:Nat×Bool}
theorem FC{k least:Nat} (hl:ts.length≤100000) (ih:∀j,j≤k→ExW ts j) (hle:1≤least) (hle2:least≤10) (hq:q.1≤ts.length) (hk:13*rem ts q+12≤k+1+least):iX 147 [iv .i64 least] ts q (eR ts (k+1) least q) exV:=by
 intro B g ob hB hf ho
 obtain⟨p,hp⟩:∃p,eR ts (k+1) least q=p:=⟨_,rfl⟩
 rw[hp]
 rw[eR] at hp
 refine ck.toR (hdM B [125] Tryz.func147 rfl [.cell 4 229] N7 hf fun b₀ β0 s0 w0=>?_)
 have n1:=nlo hB
 have n2:=nhi hB
 have hin:InF B g ob g ob:=InF.refl
 have hf1:=hf
 have hws:=ag (k:=least) a6
 by_cases hl9:9<least
 ·have hli:(9:Int)<(least:Int):=a6
  rw[if_pos hl9] at hp
  simp only[go_sem,n1,n2,hli]
  refine aA aa rfl ((ih k (b9 _)).atom q hq a6) N5 (B+44) a6 (fi hf1) N6 ?_
  rcases he:aR ts k q with⟨⟨ek,eo,en,es,ekd⟩,q1⟩
  rw[he] at hp
  simp only[go_sem,n1,n2,exV,exD]
  refine⟨_,al.refl _,?_⟩
  simp only[go_sem,n1,n2]
  exact InF.retW (r:=(.mk ek eo en es ekd,q1)) (enc:=exV) (InF.go hin) hp.symm N4 (pV (.d _)) OL
 have hli:¬(9:Int)<(least:Int):=a6
 rw[if_neg hl9] at hp
 simp only[go_sem,n1,n2,hli]
 refine aA aa rfl ((ih k (b9 _)).expr (least+1) q a6 a6 hq a6) (by simp only[go_sem,n1,n2,hws];all_goals rfl) (B+44) a6 (fi hf1) N6 ?_
 have hg1:=Src.iS (ts:=ts) k (least+1) q a6 a6 a6
 have hr1:=Src.fQ (ts:=ts) hg1 (Src.aU _ _ _).le
 have hm:=Src.jL (ts:=ts) k (least+1) q a6 hq
 clear hg1
 rcases he:eR ts k (least+1) q with⟨⟨ek,eo,en,es,ekd⟩,q1⟩
 rw[he] at hp hr1 hm
 simp only at hr1 hm
 simp only[go_sem,n1,n2,exV,exD]
 refine aM (fun z st=>∃(j:Nat) (r:RQ Ex),z+r.2.1=ts.length∧13*rem ts r.2+1≤j∧j≤k∧st.f 0=.one (.ptr 125 (g 125) 0)∧st.f 1=iv .i64 least∧st.f 4=.one (.ptr (B+4) (st.gen (B+4)) 0)∧st.f 5=.one (.ptr (B+5) (st.gen (B+5)) 0)∧
  (∃a b c d e,st.obj (B+4)=some [a,b,c,d,e])∧st.obj (B+5)=some ((exD r.1).map .d)∧st.obj 125=some (rdW ts r.2)∧InF B g ob st.gen st.obj∧(∀i,B+44≤i→st.obj i=none)∧loR ts j least r=p) (ts.length-q1.1) ?_ ?_
 ·refine⟨k,(.mk ek eo en es ekd,q1),by simp only;omega,by simp only;omega,b9 _,?_⟩
  simp only[go_sem,n1,n2,exD]
  exact⟨⟨_,_,_,_,_,rfl,rfl,rfl,rfl,rfl⟩,(InF.go hin),(fi hf1),hp⟩
 clear hf1 hin hp he
 rintro z f g1 ob1 ⟨j,⟨left,⟨n,w⟩⟩,hz,hj,hjk,q0,q1,q4,q5,⟨a,b,c,d,e,o4⟩,o5,o125,hin,hf1,hp⟩
 simp only at hz hj q0 q1 q4 q5 o4 o5 o125 hin hf1
 obtain⟨j,rfl⟩:∃i,j=i+1:=⟨j-1,a6⟩
 rw[loR] at hp
 have hg:=hin.rd
 obtain⟨lk,lo,ln,ls,lkd⟩:=left
 simp only[exD,j8,n0] at o5
 have o125':=o125
 unfold rdW bN at o125
 cases w with
 |true=>
   rw[if_neg (fun x=>by cases x.1)] at hp
   simp only[go_sem,q0,q1,q4,q5,o4,o5,hg,o125,n1,n2]
   refine⟨_,al.refl _,?_⟩
   simp only[go_sem,q4,n1,n2]
   exact InF.retW (r:=(.mk lk lo ln ls lkd,n,true)) (enc:=exV) (InF.go hin) hp.symm N8 (pV (.d _)) OL
 |false=>
   simp only[go_sem,q0,q1,q4,q5,o4,o5,hg,o125,n1,n2]
   refine am aa rfl O5 ?_
   rintro _ _ _ ⟨rfl,rfl,rfl⟩
   simp only[go_sem,q0,q1]
   refine xY rfl (by simp only[go_sem];exact uG _) ?_
   rintro _ rfl
   by_cases hs:(Src.cG (ae ts n)).2.2=least
   case neg=>
    have hsi:¬((Src.cG (ae ts n)).2.2:Int)=(least:Int):=a6
    rw[if_neg (fun x=>hs x.2)] at hp
    simp only[go_sem,q0,q1,q4,q5,o4,o5,hg,hsi,n1,n2]
    refine⟨_,al.refl _,?_⟩
    simp only[go_sem,q4,n1,n2]
    exact InF.retW (r:=(.mk lk lo ln ls lkd,n,false)) (enc:=exV) (InF.go hin) hp.symm N8 (pV (.d _)) OL
   have hsi:((Src.cG (ae ts n)).2.2:Int)=(least:Int):=a6
   have hn:n<ts.length:=Src.nL hle a6
   have hw:=ag (k:=n) a6
   have hrm:rem ts (n+1,false)+1=rem ts (n,false):=by unfold Src.rem;rw[if_neg a7,if_neg a7];simp only;omega
   rw[if_pos ⟨rfl,hs⟩] at hp
   simp only[go_sem,q0,q1,q4,q5,o4,o5,hg,hsi,n1,n2]
   refine am aa rfl O5 ?_
   rintro _ _ _ ⟨rfl,rfl,rfl⟩
   have hcr:=(ih j a6).expr (least+1) (n+1,false) a6 a6 Oa a6
   have hg3:=Src.iS (ts:=ts) j (least+1) (n+1,false) a6 a6 a6
   have hr3:=Src.fQ (ts:=ts) hg3 (Src.aU _ _ _).le
   have hm3:=Src.jL (ts:=ts) j (least+1) (n+1,false) a6 Oa
   clear hg3
   rcases her:eR ts j (least+1) (n+1,false) with⟨⟨rk,ro,rn,rx,rkd⟩,q3⟩
   rw[her] at hr3 hm3 hcr
   simp only[her] at hp
   simp only at hr3 hm3
   have hjn:(Src.cG (ae ts n)).2.2≠0:=a6
   simp only[go_sem,q0,q1,q4,q5,o4,o5,hg,o125,hw,n1,n2]
   refine eE True aQ mixed aa [125] [([6],[0],[],false),([5],[0],[],false),([0],[],[],false),([1],[],[],false),([39],[],[],false),([38,40],[],[0],false),([36,37,41],[],[],false),([5,42],[],[],true)] 1 rfl b0 rfl a7 ?_
   simp only[go_sem]
   (apply az;(case hf=>rfl);(case hg=>first|exact j6|exact⟨_,rfl,by decide,rfl⟩);(case h1=>intro fa ga oa K' hK;simp only[go_sem,q5,o5,n1,n2] at hK ⊢;exact hK))
   (apply az;(case hf=>rfl);(case hg=>first|exact j6|exact⟨_,rfl,by decide,rfl⟩);(case h1=>intro fa ga oa K' hK;simp only[go_sem,q5,o5,n1,n2] at hK ⊢;exact hK))
   iterate 2 (apply az;(case hf=>rfl);(case hg=>first|exact j6|exact⟨_,rfl,by decide,rfl⟩);(case h1=>intro fa ga oa K' hK;simp only[go_sem,q0,q1] at hK ⊢;exact hK))
   (apply az;(case hf=>rfl);(case hg=>first|exact j6|exact⟨_,rfl,by decide,rfl⟩);(case h1=>intro fa ga oa K' hK;simp only[go_sem,hws] at hK ⊢;exact hK))
   refine eF (v:=exV (.mk rk ro rn rx rkd)) (y:=some (rdW ts q3)) j6 a7 (fun fa ga oa K' hK=>?_) ?_
   ·simp only[go_sem,q0] at hK ⊢
    refine aA (k:=bx K') aa rfl hcr (by simp only[go_sem,n1,n2,hg,hws];all_goals rfl) (B+44) a6 (fi hf1) ON ?_
    exact Ms
   refine uH (v:=exV (.mk (Src.cG (ae ts n)).1 (Src.cG (ae ts n)).2.1 0 [] [.mk lk lo ln ls lkd,.mk rk ro rn rx rkd])) j6 j6 (fun fa ga oa K' hK=>?_) ?_
   ·simp only[go_sem,q0] at hK ⊢
    refine kI (k:=bx K') aa rfl (by simp only[go_sem];exact FB (ae ts n) (.mk lk lo ln ls lkd) (.mk rk ro rn rx rkd) hjn) OD ?_
    exact Nz
   refine eG rfl j6 ?_
   intro K' hK'
   simp only[go_sem,exV,exD,q5,o5,n1,n2]
   refine hK' _ ?_
   clear hK' K'
   simp only[go_sem,n1,n2,q5,o5,q0,q1,q4]
   refine ar (ts.length-q3.1) a6 ⟨j,(.mk (Src.cG (ae ts n)).1 (Src.cG (ae ts n)).2.1 0 [] [.mk lk lo ln ls lkd,.mk rk ro rn rx rkd],q3),by simp only;omega,by simp only;omega,a6,?_⟩
   simp only[go_sem,n1,n2,q0,q1,q4,q5,exD,kQ]
   exact⟨⟨_,_,_,_,_,o4⟩,(InF.go hin),(fi hf1),hp⟩
theorem FD{k:Nat} (hl:ts.length≤100000) (ih:∀j,j≤k→ExW ts j) (hq:q.1≤ts.length) (hk:13*rem ts q+12≤k+1):iX 149 [] ts q (gR ts (k+1) q) df:=by
 intro B g ob hB hf ho
 obtain⟨p,hp⟩:∃p,gR ts (k+1) q=p:=⟨_,rfl⟩
 rw[hp]
 rw[gR] at hp
 refine ck.toR (hdM B [125] Tryz.func149 rfl [.tmp 2] N7 hf fun b₀ β0 s0 w0=>?_)
 have n1:=nlo hB
 have n2:=nhi hB
 have hin:InF B g ob g ob:=InF.refl
 have hf1:=hf
 simp only[go_sem,n1,n2]
 refine bF ts q [41] aa rfl N4 N6 a6 (fun h=>?_) (fun h=>?_)
 ·rw[if_pos (show isR ts Src.aT q from h)] at hp
  simp only[go_sem,n1,n2]
  refine⟨_,al.refl _,?_⟩
  simp only[go_sem,n1,n2]
  exact InF.retW (r:=(([]:List Ex),q.1+1,false)) (enc:=df) (rs:=[.one (.d (.sl []))]) (InF.go hin) hp.symm N4 ⟨_,_,rfl,.one .nil,rfl⟩ rfl
 rw[if_neg (show ¬isR ts Src.aT q from h)] at hp
 simp only[go_sem,n1,n2]
 have hce:=(ih k (b9 _)).expr 1 q a6 a6 hq a6
 have hg1:=Src.iS (ts:=ts) k 1 q a6 a6 a6
 have hr1:=Src.fQ (ts:=ts) hg1 (Src.aU _ _ _).le
 have hm:=Src.jL (ts:=ts) k 1 q a6 hq
 clear hg1
 rcases he:eR ts k 1 q with⟨e,q1⟩
 rw[he] at hr1 hm hce
 simp only[he] at hp
 simp only at hr1 hm
 refine aA aa rfl hce N5 (B+21) a6 (fi hf1) N6 ?_
 simp only[go_sem,n1,n2,exV,aK,b7]
 refine⟨⟨a8,a8⟩,?_⟩
 refine aM (fun z st=>∃(j:Nat) (r:RQ (List Ex)),z+r.2.1=ts.length∧r.1.length≤r.2.1+1∧13*rem ts r.2+1≤j∧j≤k∧st.f 0=.one (.ptr 125 (g 125) 0)∧st.f 3=.one (.osl (B+10) (st.gen (B+10)) 5 0 r.1.length)∧st.obj (B+10)=some (exC r.1)∧st.obj 125=some (rdW ts r.2)∧InF B g ob st.gen st.obj∧(∀i,B+21≤i→st.obj i=none)∧goR ts j r=p) (ts.length-q1.1) ?_ ?_
 ·refine⟨k,([e],q1),by simp only;omega,a7,by simp only;omega,b9 _,?_⟩
  simp only[go_sem,n1,n2]
  refine⟨by rw[j4 (by simp[aK]),nS],(InF.go hin),(fi hf1),hp⟩
 clear hf1 hin hp he
 rintro z f g1 ob1 ⟨j,⟨acc,q2⟩,hz,hacc,hj,hjk,q0,q3,o8,o125,hin,hf1,hp⟩
 simp only at hz hacc hj q0 q3 o8 o125 hin hf1
 obtain⟨j,rfl⟩:∃i,j=i+1:=⟨j-1,a6⟩
 rw[goR] at hp
 have hg:=hin.rd
 simp only[go_sem,q0]
 refine bF ts q2 [44] aa rfl Oc OB a6 (fun h=>?_) (fun h=>?_)
 ·rw[if_pos (show isR ts Src.eW q2 from h)] at hp
  have hlt:=Src.cP h a7
  have hr1:=Src.fS a7 h
  have hce:=(ih j a6).expr 1 (q2.1+1,false) a6 a6 hlt a6
  have hg1:=Src.iS (ts:=ts) j 1 (q2.1+1,false) a6 a6 a6
  have hr2:=Src.fQ (ts:=ts) hg1 (Src.aU _ _ _).le
  have hm:=Src.jL (ts:=ts) j 1 (q2.1+1,false) a6 hlt
  clear hg1
  rcases he:eR ts j 1 (q2.1+1,false) with⟨e,q4⟩
  rw[he] at hr2 hm hce
  simp only[he] at hp
  simp only at hr2 hm
  simp only[go_sem,n1,n2,q0,q3]
  refine aA aa rfl hce Ol (B+21) a6 (fi hf1) N4 ?_
  have hcl:=vK acc
  simp only[go_sem,n1,n2,exV,aK,b7,q0,q3,o8,hcl,aJ]
  refine⟨a6,⟨a8,a6⟩,?_⟩
  refine ar (ts.length-q4.1) a6 ⟨j,(acc++[e],q4),by simp only;omega,by simp only[c9];simp;omega,by simp only;omega,a6,?_⟩
  simp only[go_sem,n1,n2,q0,q3,c9]
  refine⟨?_,(InF.go hin),(fi hf1),hp⟩
  rw[j4 a6,BP,nS,j4 (by simp[aK])]
 ·rw[if_neg (show ¬isR ts Src.eW q2 from h)] at hp
  simp only[go_sem,n1,n2,q0,q3]
  refine aE ts q2 [41] aa rfl Oc OB a6 (B+21) a6 (fi hf1) ?_
  simp only[go_sem,n1,n2,q0,q3]
  refine⟨_,al.refl _,?_⟩
  simp only[go_sem,n1,n2,q3]
  exact InF.retW (r:=(acc,ah ts [41] q2)) (enc:=df) (InF.go hin) hp.symm N4 (vL a6 N4 (by simp only[go_sem,n1,n2,o8]) rfl) rfl
end
end
end Go.Proofs.YtphohejoiocikaaGreatDoor

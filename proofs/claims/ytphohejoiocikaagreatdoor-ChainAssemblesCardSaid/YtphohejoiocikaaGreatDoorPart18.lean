/- A part of the proof; no conditions. -/
import Derived.Test.YtphohejoiocikaaGreatDoorPart17
import Derived.Lib.LaidTab
import Derived.Lib.LaidU8
import Derived.OpenShut
import Derived.Laws.IdiomArrays
import Derived.Test.YtphohejoiocikaaGreatDoorTie
import Derived.Test.YtphohejoiocikaaGreatDoorCards
set_option linter.unusedSimpArgs false
set_option linter.unusedVariables false
set_option maxHeartbeats 64000000
set_option maxRecDepth 100000
namespace Go.Proofs.YtphohejoiocikaaGreatDoor
section
attribute [local congr] Go.Am.ite_cc
open Go Go.Am Go.Asm
open Go.Src (aY ae takeN Ex Stm RQ isR ah bg kM ngR nR kE)
theorem gG (ts:List Src.Tok) (q:Nat×Bool) (k:Nat) (hk:0<k) (hn:q.1≤1000000):iX 58 [iv .i64 k] ts q (bg ts k q) fM:=by
 intro B g ob hB hf ho
 obtain⟨n,w⟩:=q
 obtain⟨r,hr⟩:∃r,bg ts k (n,w)=r:=⟨_,rfl⟩
 rw[hr]
 refine ck.toR (hdM B [125] Tryz.func58 rfl [.cell 4 101] N7 hf fun b₀ β0 s0 w0=>?_)
 have hw:=ag (k:=n) (by simp only at hn;omega)
 have hws:IntKind.i64.wrap (((n+1:Nat):Int)-1)=(n:Int):=by simp only at hn;rw[wrap_i64 _ a6 a6];omega
 have hn0:(0:Int)≤(n:Int):=a6
 have n1:=nlo hB
 have n2:=nhi hB
 have hO:∀y,upd ob (B+4) y 125=some (rdW ts (n,w)):=fun y=>by simp only[upd];rw[if_neg a6];exact ho
 have hG:∀x,upd g (B+4) x 125=g 125:=fun x=>by simp only[upd];rw[if_neg a6]
 simp only[go_sem,n1,n2]
 by_cases hc:w=false∧aY ts n=k
 case neg=>
  refine am aa rfl (by simp only[go_sem,n1,n2];rw[←hG (nxC 102 (g (B+4)))];exact rz hk (hO _) (s6 hc)) ?_
  rintro _ g1 ob1 ⟨rfl,rfl,rfl⟩
  obtain rfl:r=(kM,n,true):=by rw[←hr];exact if_neg hc
  unfold rdW at ho
  simp only[go_sem,ho,n1,n2]
  refine⟨_,al.refl _,?_⟩
  simp only[go_sem,n1,n2]
  refine InF.retW (r:=(kM,n,true)) (enc:=fM) (rs:=[fM kM]) (InF.go .refl) rfl ?_ ?_ rfl
  ·simp only[go_sem,n1,n2,rdW]
  ·exact⟨_,_,rfl,.agg (xs:=fB kM) rfl (fun i c hc=>by
    match i,hc with
    |0,hc=>cases hc;exact⟨_,rfl,.d _⟩
    |1,hc=>cases hc;exact⟨_,rfl,.d _⟩
    |2,hc=>cases hc;exact⟨_,rfl,.d _⟩
    | 3,hc=>cases hc;exact⟨_,rfl,.d _⟩),rfl⟩
 refine am aa rfl (by simp only[go_sem,n1,n2];rw[←hG (nxC 102 (g (B+4)))];exact rz hk (hO _) (w9 hc)) ?_
 rintro _ g1 ob1 ⟨rfl,rfl,rfl⟩
 obtain⟨rfl,hk1⟩:=hc
 obtain⟨t,ht⟩:∃t,ts[n]? = some t:=getq (Src.Cx hk1 a6)
 have htg:=lL ht
 obtain rfl:r=(t,n+1,false):=by rw[←hr];unfold bg;rw[if_pos ⟨rfl,hk1⟩];simp only;rw[ht];rfl
 unfold rdW bN at ho
 simp only[go_sem,ho,hw,n1,n2]
 refine cy b0 ?_
 simp only[go_sem,n1,n2,hw,hws,hn0,htg]
 refine⟨_,al.refl _,?_⟩
 simp only[go_sem,n1,n2]
 refine InF.retW (r:=(t,n+1,false)) (enc:=fM) (rs:=[fM t]) (InF.go .refl) rfl ?_ ?_ rfl
 ·simp only[go_sem,n1,n2,rdW,bN]
 ·exact⟨_,_,rfl,.agg (xs:=fB t) rfl (fun i c hc=>by
   match i,hc with
   |0,hc=>cases hc;exact⟨_,rfl,.d _⟩
   |1,hc=>cases hc;exact⟨_,rfl,.d _⟩
   |2,hc=>cases hc;exact⟨_,rfl,.d _⟩
   | 3,hc=>cases hc;exact⟨_,rfl,.d _⟩),rfl⟩
theorem rB (ts:List Src.Tok) (hl:ts.length≤100000) (q:Nat×Bool) (hq:q.1≤ts.length):iX 56 [] ts q (nR ts q) jR:=by
 intro B g ob hB hf ho
 obtain⟨p,hp⟩:∃p,nR ts q=p:=⟨_,rfl⟩
 rw[hp]
 unfold nR at hp
 refine ck.toR (hdM B [125] Tryz.func56 rfl [.tmp 2] N7 hf fun b₀ β0 s0 w0=>?_)
 have n1:=nlo hB
 have n2:=nhi hB
 have hin:InF B g ob g ob:=InF.refl
 have hf1:=hf
 simp only[go_sem,n1,n2]
 refine aA aa rfl (gG ts q 1 a8 a6) N5 (B+17) a6 (fi hf1) N6 ?_
 rcases ht:bg ts 1 q with⟨t,q1⟩
 have hm:=Src.kf (ts:=ts) (k:=1) a8 hq
 rw[ht] at hp hm
 simp only at hp hm
 unfold fM fB
 simp only[go_sem,n1,n2]
 refine aM (fun z st=>∃(j:Nat) (r:RQ (List Str)),z+r.2.1=ts.length∧r.1.length≤r.2.1+1∧4*Src.rem ts r.2+1≤j∧st.f 0=.one (.ptr 125 (g 125) 0)∧st.f 3=.one (.osl (B+7) (st.gen (B+7)) 1 0 r.1.length)∧st.obj (B+7)=some (dl r.1)∧st.obj 125=some (rdW ts r.2)∧InF B g ob st.gen st.obj∧(∀i,B+17≤i→st.obj i=none)∧ngR ts j r=p) (ts.length-q1.1) ?_ ?_
 ·refine⟨kE ts,([t.text],q1),by simp only;omega,a7,Src.nl a6 _,?_⟩
  simp only[go_sem,n1,n2,dl]
  exact⟨(InF.go hin),(fi hf1),hp⟩
 clear hf1 hin hp
 rintro z f g1 ob1 ⟨j,⟨acc,q2⟩,hz,hacc,hj,q0,q3,o7,o125,hin,hf1,hp⟩
 simp only at hz hacc hj q0 q3 o7 o125 hin hf1
 obtain⟨j,rfl⟩:∃i,j=i+1:=⟨j-1,a6⟩
 rw[ngR] at hp
 have hg:=hin.rd
 simp only[go_sem,q0]
 refine bF ts q2 [44] aa rfl Oc OB a6 (fun h=>?_) (fun h=>?_)
 ·rw[if_pos (show isR ts Src.eW q2 from h)] at hp
  have hlt:=Src.cP h a7
  have hr1:=Src.fS a7 h
  simp only[go_sem,n1,n2,q0,q3]
  refine aA aa rfl (gG ts (q2.1+1,false) 1 a8 Oa) Ol (B+17) a6 (fi hf1) N4 ?_
  have hm:=Src.kf (ts:=ts) (k:=1) (q:=(q2.1+1,false)) a8 hlt
  have hr2:=Src.nM (ts:=ts) (k:=1) a8 (q:=(q2.1+1,false))
  rcases ht:bg ts 1 (q2.1+1,false) with⟨t,q4⟩
  rw[ht] at hp hm hr2
  simp only at hp hm hr2
  have hcl:=mF acc
  unfold fM fB
  simp only[go_sem,n1,n2,q0,q3,o7,hcl,aJ]
  refine⟨a6,⟨a8,a6⟩,?_⟩
  refine ar (ts.length-q4.1) a6 ⟨j,(acc++[t.text],q4),by simp only;omega,by simp only[c9];simp;omega,by simp only;omega,?_⟩
  simp only[go_sem,n1,n2,q0,q3,c9]
  refine⟨?_,(InF.go hin),(fi hf1),hp⟩
  rw[j4 a6]
  simp[dl]
 ·rw[if_neg (show ¬isR ts Src.eW q2 from h)] at hp
  simp only[go_sem,n1,n2,q0,q3]
  refine⟨_,al.refl _,?_⟩
  simp only[go_sem,n1,n2,q3]
  exact InF.retW (r:=(acc,q2)) (enc:=jR) (InF.go hin) hp.symm OB (sT a6 N4 (by simp only[go_sem,n1,n2,o7]) rfl) rfl
end
end Go.Proofs.YtphohejoiocikaaGreatDoor

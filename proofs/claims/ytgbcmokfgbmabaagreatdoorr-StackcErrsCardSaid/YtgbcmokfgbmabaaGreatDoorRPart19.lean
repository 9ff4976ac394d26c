/- A part of the proof; no conditions. -/
import Derived.Test.YtgbcmokfgbmabaaGreatDoorRPart18
import Derived.Lib.LaidTab
import Derived.Lib.LaidU8
import Derived.OpenShut
import Derived.Laws.IdiomArrays
import Derived.Test.YtgbcmokfgbmabaaGreatDoorRTie
import Derived.Test.YtgbcmokfgbmabaaGreatDoorRCards
set_option linter.unusedSimpArgs false
set_option linter.unusedVariables false
set_option maxHeartbeats 64000000
set_option maxRecDepth 100000
namespace Go.Emit
section
open Go.Lower (Ins Code Sig codeOf takes xL il Good OkI eS)
open Go.Src (CFn Fn Pl ac cF bL sigs dw aK Ab gV gA au)
open Go.Asm (Str)
theorem QA:∀(l:List Str) (m:Pl) (w:Int),(gV l m w).2=w+l.length
 |[],m,w=>by simp[gV]
 |n::l,m,w=>by rw[gV,QA l];simp only[j6];omega
theorem QB:∀(l:List (Str×Int)) (m:Pl) (w:Int),(gA l m w).2=w+(l.map (·.2)).sum
 |[],m,w=>by simp[gA]
 |n::l,m,w=>by rw[gA,QB l];simp only[l5,C6];omega
theorem xH (o:Pl):∀(l:List Src.Fn) (w:Int),(cF o l w).2=w+((l.map fun f=>f.params.length+f.locals.length).sum:Nat)
 |[],w=>by simp[cF]
 |f::l,w=>by simp only[cF,xH o l,l5,C6];omega
theorem EE (p:Src.Prog):(ac p).words=p.vars.length+(p.arrays.map (·.2)).sum+((p.funcs.map fun f=>f.params.length+f.locals.length).sum:Nat):=by
 unfold ac aK
 simp only
 rw[xH,QB,QA]
 omega
theorem oq:∀(l:List Int) (d m:Int),(∀x∈l,x≤m)→d≤m→deepest l d≤m
 |[],d,m,_,hd=>hd
 |a::l,d,m,h,hd=>by
   rw[pw]
   have:=h a a7
   exact oq l _ m (fun x hx=>h x (by simp[hx])) a6
theorem vh (n:Nat):∀(l:List (List Int)) (k:Nat) (w:Int),(dK n k l w).2.2≤w+l.length+(l.map fun o=>deepest o 0).sum
 |[],k,w=>by simp[dK]
 |o::l,k,w=>by
   have ih:=vh n l (k+1) ((if k+1=n then w else w+1)+deepest o 0)
   have hb:(if k+1=n then w else w+1)≤w+1:=by split <;> omega
   simp only[dK,j6,l5,C6]
   omega
theorem te {α:Type} (f:α→Int) (g:α→Nat):∀l:List α,(∀x∈l,f x≤g x)→(l.map f).sum≤((l.map g).sum:Nat)
 |[],_=>by simp
 |a::l,h=>by
   have:=te f g l fun x hx=>h x (by simp[hx])
   have:=h a a7
   simp only[l5,C6]
   omega
def vj (d:fB):Prop:=(∀v∈d.ent,0≤v∧v≤(d.code.length:Int))∧∀l∈d.pls,∀v∈l,0≤v∧v≤(d.code.length:Int)
theorem CK (fs:List CFn) (P:Plan) (f:Nat) (cd:Lower.Code) (ds:List Int) (n:Nat) {a b:Nat} (h:a≤b):(kf fs P f cd ds a n).code.length≤(kf fs P f cd ds b n).code.length:=by
 induction h with
 |refl=>exact j8 _
 |step _ ih=>rw[kf];simp only[am,j5];omega
theorem xI {α:Type}{l:List α}{k:Nat}{a x:α} (h:x∈l.set k a):x∈l∨x=a:=K9 h
theorem vj.add {fs:List CFn}{P:Plan}{d:fB}{f:Nat} (h:vj d):vj (dW fs P d f):=by
 unfold dW
 split
 ·rename_i y ds _ _
  simp only
  refine⟨fun v hv=>?_,fun l hl v hv=>?_⟩
  ·simp only[j5]
   rcases xI hv with hv|rfl
   ·have:=h.1 v hv;omega
   ·omega
  ·simp only[j5]
   rcases xI hl with hl|rfl
   ·have:=h.2 l hl v hv;omega
   ·unfold placesOf at hv
    obtain⟨k,hk,rfl⟩:=F7.1 hv
    have:=CK fs P f (codeOf y.word y.body) ds d.code.length (R1 (D5.1 hk))
    omega
 ·exact h
theorem mK (fs:List CFn) (P:Plan):∀k,vj (uH fs P k)
 |0=>vj.add ⟨fun v hv=>by rw[F2 hv];simp,fun l hl v hv=>by rw[F2 hl] at hv;cases hv⟩
 |k+1=>(mK fs P k).add
theorem EF {d:fB} (h:vj d) (q:Int×Int):0≤lS d q∧lS d q≤(d.code.length:Int):=by
 unfold lS
 split
 ·cases hl:d.pls[q.1.toNat]? with
  |none=>simp
  |some l=>
    simp only[z7]
    cases hv:l[q.2.toNat]? with
    |none=>simp
    |some v=>exact h.2 l (l0 hl) v (l0 hv)
 ·cases hv:d.ent[q.1.toNat]? with
  |none=>simp
  |some v=>exact h.1 v (l0 hv)
theorem QC {p:Src.Prog} (h:bL p=0) (hn:Ab p) (hV:p.vars.length+p.funcs.length+((p.funcs.map fun f=>f.params.length+f.locals.length).sum+(p.funcs.map fun f=>au f.body).sum)≤150) (hA:(p.arrays.map (·.2)).sum≤4096) :
  (ac p).words≤32768∧0≤(lx (ac p).words (ac p).funcs).data∧(lx (ac p).words (ac p).funcs).data≤32768∧(filled (whole (ac p).funcs (lx (ac p).words (ac p).funcs))).length≤16384∧∀x∈filled (whole (ac p).funcs (lx (ac p).words (ac p).funcs)),rW x:=by
 obtain⟨hr,_,_⟩:=Src.yS h
 have hl:1≤p.funcs.length∧∀f∈p.funcs,f.params.length≤6:=by
  unfold dw at hr
  simp only[l6,A6,x7] at hr
  refine⟨hr.1.1.1,fun f hf=>?_⟩
  have:=hr.2.2 f hf
  unfold Src.eL at this
  simp only[l6,A6] at this
  exact this.1.2
 obtain⟨P,hP⟩:∃P,lx (ac p).words (ac p).funcs=P:=⟨_,rfl⟩
 have hw:=EE p
 have hfl:=wu p
 have hg0:=zV h
 have hw0:0≤(ac p).words:=by have:(aK p).2≤(ac p).words:=Src.vN _ _ _;omega
 have h2:=ow (fun x:CFn=>(eZ x).length) (fun x=>Src.mg x.body) (fun x=>Src.Pj x.word x.body) (ac p).funcs
 have h3:((ac p).funcs.map fun x=>Src.mg x.body).sum=(p.funcs.map fun f=>au f.body).sum:=Src.yV _ _ _
 have hdl:P.depths=(ac p).funcs.map fun x=>iX (eZ x):=by rw[←hP];rfl
 have hd:=vh (ac p).funcs.length P.depths 0 (ac p).words
 have hge:=qu (ac p).funcs.length P.depths 0 (ac p).words fun o _=>ly o 0
 have hdata:P.data=(dK (ac p).funcs.length 0 P.depths (ac p).words).2.2:=by rw[←hP];rfl
 have hbase:P.base=(dK (ac p).funcs.length 0 P.depths (ac p).words).2.1:=by rw[←hP];rfl
 have hback:P.back=(dK (ac p).funcs.length 0 P.depths (ac p).words).1:=by rw[←hP];rfl
 have hcd:∀x∈(ac p).funcs,(eZ x).length≤1000:=fun x hx=>by
  have h1:=Src.Pj x.word x.body
  have h2:=Src.Ku (fun x:CFn=>Src.mg x.body) hx
  unfold eZ
  omega
 have hds:(P.depths.map fun o=>deepest o 0).sum≤(((ac p).funcs.map fun x=>(eZ x).length).sum:Nat):=by
  rw[hdl,Q9]
  exact te _ _ _ fun x hx=>oq _ _ _ (fun d hd=>((vm h hx).2 d hd).2) a6
 have hpl:(P.depths.length:Int)=p.funcs.length:=by rw[hdl,j4,hfl]
 have hdt:P.data≤32768:=a6
 have H:wt (ac p).funcs P 6:=by rw[←hP];exact QD h hl.2
 have hW:=sk H ((ac p).funcs.length-1) (j8 _)
 have hWl:=CO (ac p).funcs 6 (k:=(ac p).funcs.length-1) a6 (j8 _)
 have hsz:=wr (ac p).funcs 6 (ac p).funcs.length (j8 _)
 rw[G1] at hsz
 have hcl:(whole (ac p).funcs P).code.length≤16384:=B5 hW.c a6
 have hfe:=CX H
 have hlen:(filled (whole (ac p).funcs P)).length=(whole (ac p).funcs P).code.length:=by
  have e:=oA (whole (ac p).funcs P) (whole (ac p).funcs P).holes (whole (ac p).funcs P).code fun h hh=>(hW.h h hh).1
  unfold filled
  rw[e,jB]
 have henv:∀q,0≤lS (whole (ac p).funcs P) q∧lS (whole (ac p).funcs P) q≤65535:=fun q=>by
  have:=EF (mK (ac p).funcs P ((ac p).funcs.length-1)) q
  have e:uH (ac p).funcs P ((ac p).funcs.length-1)=whole (ac p).funcs P:=rfl
  rw[e] at this
  omega
 have hin:∀(l:List Int) (f:Nat),(∀x∈l,(ac p).words≤x∧x≤P.data)→0≤(l[f]?).getD 0∧(l[f]?).getD 0≤32768:=fun l f hx=>by
  cases hv:l[f]? with
  |none=>simp
  |some v=>have:=hx v (l0 hv);simp only[z7];omega
 have hbk:∀x∈P.back,(ac p).words≤x∧x≤P.data:=by
  rw[hback,hdata]
  have:∀(l:List (List Int)) (k:Nat) (w:Int),∀x∈(dK (ac p).funcs.length k l w).1,w≤x∧x≤(dK (ac p).funcs.length k l w).2.2:=by
   intro l
   induction l with
   |nil=>intro k w x hx;cases hx
   |cons o l ih=>
     intro k w x hx
     have hgo:=qu (ac p).funcs.length (o::l) k w fun o _=>ly o 0
     simp only[dK] at hx hgo ⊢
     rcases z6.1 hx with rfl|hx
     ·exact⟨E6 _,hgo.1⟩
     ·have:=ih _ _ x hx
      have hb:w≤(if k+1=(ac p).funcs.length then w else w+1):=by split <;> omega
      have:=ly o 0
      omega
  exact this _ _ _
 have hA:∀f,Iz (ac p).funcs P f (ac p).words:=fun f=>by
  refine⟨hin _ f (by rw[hbase,hdata];exact hge.2),hin _ f hbk,a6,fun y hy=>?_⟩
  obtain⟨g,w,_,h2,rfl,h4⟩:=EI hy
  simp only[Src.ng]
  omega
 have hsig:(ac p).funcs.map (fun x=>(x.params,x.word))=sigs p.funcs:=EJ p
 have hfun:∀f n,n+(zZ (lS (whole (ac p).funcs P)) (ac p).funcs P f n).length≤60000→∀x∈zZ (lS (whole (ac p).funcs P)) (ac p).funcs P f n,rW x:=fun f n hn' x hx=>by
  unfold zZ at hx hn'
  cases hf:(ac p).funcs[f]? with
  |none=>rw[hf] at hx;cases hx
  |some y=>
    cases hdp:P.depths[f]? with
    |none=>rw[hf,hdp] at hx;cases hx
    |some ds=>
      rw[hf,hdp] at hx hn'
      simp only at hx hn'
      have hy:=l0 hf
      obtain⟨h0,hgd⟩:=qv h hy
      have hde:ds=iX (eZ y):=by
       rw[hdl,x9,hf] at hdp
       exact(E7 hdp).symm
      obtain⟨hm,_⟩:=pA (fun _=>rfl) h0 hgd
      refine(xP henv (hA f) (word:=y.word) (by rw[hf];rfl) (fun k z d hk hdk hd0=>?_) _).2 n (by rw[CP] at hn';exact hn') x hx
      rw[hde] at hdk
      have hdd:=(vm h hy).2 d (l0 hdk)
      have:=hcd y hy
      refine⟨Src.TD h hn hy z (l0 hk),a6,?_⟩
      obtain⟨t,q,h1,_,h3,_⟩:=eS hgd hk
      refine⟨t,q,by rw[hsig];exact h1,?_⟩
      rcases hm.inv.2.1 k d hdk with e|⟨e,_⟩
      ·omega
      ·simp only[hk] at e
       have e:z.2=d:=E7 e
       omega
 have hto:∀k,(toC (lS (whole (ac p).funcs P)) (ac p).funcs P k).length≤16384→∀x∈toC (lS (whole (ac p).funcs P)) (ac p).funcs P k,rW x:=by
  intro k
  induction k with
  |zero=>
    intro hl x hx
    rw[toC] at hl hx
    simp only[j5,j6,j7] at hl
    rcases B9.1 hx with hx|hx
    ·rw[C4.1 hx];exact tr a8 a8 a8
    ·exact hfun _ _ a6 x hx
  |succ k ih=>
    intro hl x hx
    rw[toC] at hl hx
    rw[j5] at hl
    rcases B9.1 hx with hx|hx
    ·exact ih a6 x hx
    ·exact hfun _ _ a6 x hx
 rw[hP]
 refine⟨a6,a6,hdt,a6,fun x hx=>?_⟩
 rw[hfe] at hx hlen
 exact hto _ a6 x hx
end
end Go.Emit
namespace Go.Proofs.YtgbcmokfgbmabaaGreatDoorR.Low
section
attribute [local congr] Go.Am.ite_cc
open Go Go.Am Go.Asm
open Go.Src (bL ac fX au Ab tv)
section
theorem Af {x:gy} (h:Emit.rW x):oV x=true:=by
 obtain⟨⟨h1,h2⟩,h3,h4,h5⟩:=h
 unfold Emit.inP at h3 h4 h5
 unfold oV eb iM inW nP
 simp only[l6,A6]
 refine⟨⟨a6,a6⟩,?_,?_,?_⟩
 ·split at h3 <;> split <;> simp_all
 ·split at h4 <;> split <;> simp_all
 ·split at h5 <;> split <;> simp_all
variable {p:Src.Prog}
theorem rz (h:bL p=0):fX p=if 32768<(ac p).words then(⟨0,[]⟩,2) else(ac p,0):=by unfold Src.fX;exact if_neg (by simp[h])
theorem xS (h:bL p=0):(cI p).2=0∨cI p=(([],0),2):=by
 unfold cI
 rw[rz h]
 by_cases hw:32768<(ac p).words
 ·rw[if_pos hw]
  exact .inr rfl
 rw[if_neg hw,if_neg a7]
 unfold nT
 split
 ·exact .inr rfl
 ·simp only
  split
  ·exact .inr rfl
  ·split
   ·exact .inl rfl
   ·exact .inr rfl
theorem xT (h:bL p=0) (hn:Ab p) (hV:szP p≤150) (hl:tv p=true):(cI p).2=0:=by
 unfold tv at hl
 simp only[l6,A6] at hl
 have hs:∀l:List Src.Fn,(l.map fun f=>f.params.length+f.locals.length+au f.body).sum=(l.map fun f=>f.params.length+f.locals.length).sum+(l.map fun f=>au f.body).sum:=by
  intro l
  induction l with
  |nil=>rfl
  |cons a l ih=>simp only[l5,C6,ih];omega
 rw[qC,hs] at hV
 obtain⟨h1,h2,h3,h4,h5⟩:=Emit.QC h hn a6 hl.2.1
 unfold cI
 rw[rz h,if_neg (show ¬32768<(ac p).words by omega),if_neg a7]
 unfold nT eq
 rw[if_neg a6]
 simp only
 rw[if_neg a6,if_pos (x7.2 fun x hx=>Af (h5 x hx))]
theorem Ff (code:List Nat) (d:Nat) (h1:code.length≤16384) (h2:d≤32768):aq Tryz.prog 11 [eQ (code,d)] (· = bv true):=by
 refine hdP Tryz.func11 rfl [2] fun g=>?_
 unfold eQ eA
 have h1:(code.length:Int)≤16384:=a6
 have h2:(d:Int)≤32768:=a6
 have h0:(0:Int)≤(d:Int):=a6
 simp only[go_sem,j4,h1,h2,h0]
theorem IK {o:cn} (ht:ji o) (p:Src.Prog) (hp:Src.InP p) (hn:Ab p):bI Tryz.prog 3 o 4 [bO p] (· = bv true):=by
 refine hdG Tryz.func4 rfl [.tmp 2] fun b₀ β0 s0 w0 g=>?_
 have hF:=QP p hp 150 a8
 have hin:∀f∈p.funcs,Src.oF f.body:=fun f hf=>(hp.fs f hf).2.2
 have hI:=fun h=>wU ht (p:=p) h
 have hSd:=fun h=>IG (o:=o) p h hin
 have hLe:=fun h1 h2 h3=>IH p h1 h2 h3
 rw[cB] at hF hI hSd hLe ⊢
 simp only[go_sem]
 refine ck rfl (by simp only[go_sem];exact IJ ht) ?_
 rintro _ rfl
 simp only[go_sem]
 refine gZ rfl (by simp only[go_sem];exact hF) ?_
 rintro _ rfl
 cases hfew:Src.QO p 150
 ·exact VE
 have hsz:szP p≤150:=Src.SN (most:=150) hfew
 have hsm:Sm p:=by
  rw[qC] at hsz
  refine⟨a6,a6,a6,fun f hf=>?_⟩
  have:=kh hf
  rw[qC] at this
  exact⟨⟨a6,a6⟩,a6⟩
 have hI:=hI a6
 have hSd:=hSd hsm
 obtain⟨⟨⟨code,d⟩,e⟩,hr⟩:∃r,cI p=r:=⟨_,rfl⟩
 have hR:=pR p
 rw[hr] at hI hR
 unfold pQ eQ eA at hI
 simp only[go_sem]
 refine ck rfl (by simp only[go_sem];exact hI) ?_
 rintro _ rfl
 simp only[go_sem]
 refine ck rfl (by simp only[go_sem];exact hSd) ?_
 rintro _ rfl
 by_cases hs:bL p=0
 case neg=>
  have hsi:¬(bL p:Int)=0:=a6
  have hie:cI p=(([],0),bL p):=by
   unfold cI fX
   rw[if_pos hs,if_pos hs]
  rw[hie] at hr
  obtain⟨⟨rfl,rfl⟩,rfl⟩:(([]:List Nat)=code∧0=d)∧bL p=e:=by simpa using hr
  simp only[go_sem,hsi,v8,j7]
 have hRM:=Ff code d hR.1 hR.2
 unfold eQ eA at hRM
 have hc:=xS hs
 rw[hr] at hc
 by_cases he:e=0
 ·subst he
  simp only[go_sem,hs]
  refine gZ rfl (by simp only[go_sem];exact hRM) ?_
  rintro _ rfl
  exact VE
 obtain⟨⟨rfl,rfl⟩,rfl⟩:(code=[]∧d=0)∧e=2:=by rcases hc with h|h;exact absurd h he;simpa using h
 have hrp:=(Src.yS hs).1
 have hra:∀a∈p.arrays,0≤a.2∧a.2≤4096:=fun a ha=>by
  unfold Src.dw at hrp
  simp only[l6,x7] at hrp
  have:=hrp.2.1 a ha
  exact Yp
 have hsum:∀l:List (Str×Int),(∀a∈l,0≤a.2∧a.2≤4096)→(l.map (·.2)).sum≤4096*(l.length:Int):=by
  intro l
  induction l with
  |nil=>intro _;simp
  |cons a l ih=>
    intro h
    have:=ih fun x hx=>h x (by simp[hx])
    have:=h a a7
    simp only[l5,C6,j6]
    omega
 have hsa:=hsum p.arrays hra
 have hpa:=hsm.a
 have hLe:=hLe a6 (fun a ha=>(hra a ha).1) a6
 have hl:tv p=false:=by
  cases hl:tv p
  ·rfl
  ·have:=xT hs hn hsz hl
   rw[hr] at this
   cases this
 rw[hl] at hLe
 simp only[go_sem,hs]
 refine gZ rfl (by simp only[go_sem];exact hLe) ?_
 rintro _ rfl
 simp only[go_sem,v8,j7]
end
end
end Go.Proofs.YtgbcmokfgbmabaaGreatDoorR.Low
namespace Go.Am
section
section
section
variable {P:Program}{t:TypeId}{ds:List D}
theorem eW.inv_bool (h:eW P t ds) (hu:P.underlying t=some .bool):∃b,ds=[.bool b]:=by
 cases h with
 |bool _ b=>exact⟨b,rfl⟩
 |int hu'=>rw[hu] at hu';cases hu'
 |str hu'=>rw[hu] at hu';cases hu'
 |sl hu'=>rw[hu] at hu';cases hu'
 |struct hu'=>rw[hu] at hu';cases hu'
 |array hu'=>rw[hu] at hu';cases hu'
theorem eW.inv_int {k:IntKind} (h:eW P t ds) (hu:P.underlying t=some (.int k)):∃m,ds=[.int k m]∧(Lit.int k m).wf=true:=by
 cases h with
 |int hu' m hw=>rw[hu] at hu';cases hu';exact⟨m,rfl,hw⟩
 |bool hu'=>rw[hu] at hu';cases hu'
 |str hu'=>rw[hu] at hu';cases hu'
 |sl hu'=>rw[hu] at hu';cases hu'
 |struct hu'=>rw[hu] at hu';cases hu'
 |array hu'=>rw[hu] at hu';cases hu'
theorem eW.inv_str (h:eW P t ds) (hu:P.underlying t=some .string):∃s,ds=[.str s]∧s.length≤reachBytes:=by
 cases h with
 |str _ s hl=>exact⟨s,rfl,hl⟩
 |bool hu'=>rw[hu] at hu';cases hu'
 |int hu'=>rw[hu] at hu';cases hu'
 |sl hu'=>rw[hu] at hu';cases hu'
 |struct hu'=>rw[hu] at hu';cases hu'
 |array hu'=>rw[hu] at hu';cases hu'
theorem eW.inv_sl {e:TypeId} (h:eW P t ds) (hu:P.underlying t=some (.slice e)):∃es,ds=[.sl es]∧es.length*P.bytesOf e≤reachBytes∧∀x∈es,eW P e x:=by
 cases h with
 |sl hu' es hl hh=>rw[hu] at hu';cases hu';exact⟨es,rfl,hl,hh⟩
 |bool hu'=>rw[hu] at hu';cases hu'
 |int hu'=>rw[hu] at hu';cases hu'
 |str hu'=>rw[hu] at hu';cases hu'
 |struct hu'=>rw[hu] at hu';cases hu'
 |array hu'=>rw[hu] at hu';cases hu'
theorem eW.inv_struct {fs:Array Field} (h:eW P t ds) (hu:P.underlying t=some (.struct fs)):∃parts:List (List D),ds=parts.flatten∧parts.length=fs.toList.length∧∀(i:Nat) (f:Field) (x:List D),fs.toList[i]? = some f→parts[i]? = some x→eW P f.type x:=by
 cases h with
 |struct hu' parts hl hh=>rw[hu] at hu';cases hu';exact⟨parts,rfl,hl,hh⟩
 |bool hu'=>rw[hu] at hu';cases hu'
 |int hu'=>rw[hu] at hu';cases hu'
 |str hu'=>rw[hu] at hu';cases hu'
 |sl hu'=>rw[hu] at hu';cases hu'
 |array hu'=>rw[hu] at hu';cases hu'
theorem nn {α β:Type}{f:β→α}{Q:β→Prop}:∀{l:List α},(∀x∈l,∃y,x=f y∧Q y)→∃m:List β,l=m.map f∧∀y∈m,Q y
 |[],_=>⟨[],rfl,fun _ h=>by cases h⟩
 |x::l,h=>by
   obtain⟨y,rfl,hy⟩:=h x a7
   obtain⟨m,rfl,hm⟩:=nn (l:=l) fun x hx=>h x (by simp[hx])
   exact⟨y::m,rfl,fun z hz=>by
    rcases z6.1 hz with rfl|hz
    ·exact hy
    ·exact hm z hz⟩
end
end
end
end Go.Am
namespace Go.Proofs.YtgbcmokfgbmabaaGreatDoorR
section
open Go Go.Am Go.ChangeShapes Go.WideShapes Go.ChangeAt Go.RowKit Go.Lib
theorem own:ownKnob Tryz.prog.godebug=none:=c8
theorem laidOut:laidOutB Tryz.prog=true:=c8
def vq:List (String×DataW Unit):=[("seedcorn/token.words",Rows.laid_seedcorn_token_words),("seedcorn/token.signs",Rows.laid_seedcorn_token_signs)]
theorem Fg:reachBytes=140737488351232:=c8
theorem u9:Tryz.prog.underlying 9=some .string:=c8
theorem u4:Tryz.prog.underlying 4=some .bool:=c8
theorem u3:Tryz.prog.underlying 3=some (.int .i64):=c8
theorem u48:Tryz.prog.underlying 48=some (.int .u32):=c8
theorem u5:Tryz.prog.underlying 5=some (.int .u8):=c8
def tys:List TypeId:=[3,4,5,9,48,22,23,24,26,49,51,52,54,56,65]
theorem tw:wb Tryz.prog tys=true:=c8
theorem nN {H:Type}{enc:TypeId×Value→H}{P:Program}{w:World}{base:Nat}{sp:Nat→Bool}{held:Bool}{fuel:Nat}{t e:TypeId}{n:Nat}{cs:List Value}{zs:List (List UInt8)}{p:List MemPlace}
  (ht:P.underlying t=some (.array n e)) (he:P.underlying e=some .string) (hce:P.cellsOf e=1) (hct:P.cellsOf t=n)
  (h:DataW.trod enc P w base sp held fuel t cs=some (DataW.agg (zs.map fun z=>.lit (.string z)),p)):∀(i:Nat) z,zs[i]? = some z→cs[i]? = some (.string ⟨z.toArray⟩):=by
 cases fuel with
 |zero=>simp[DataW.trod] at h
 |succ fuel=>
   simp only[DataW.trod,ht,hce,hct,M0] at h
   split at h
   ·obtain⟨xs,hm,hx⟩:=I0.1 h
    have hxs:xs.map (·.1)=zs.map fun z=>(DataW.lit (.string z):DataW H):=by
     have:=congrArg Prod.fst hx
     exact XJ
    have hxl:xs.length=n:=by simpa using mapM_length hm
    have hzl:zs.length=n:=by
     have:=congrArg List.length hxs
     simp at this
     omega
    intro i z hz
    have hi:i<n:=by
     have:=(l4.1 hz).1
     omega
    obtain⟨b,hb,hf⟩:=mapM_at hm i i (by simp[hi])
    obtain⟨s,hc,rfl,_⟩:=DataW.trod_string he hf
    have h1:cs[i]? = some (.string s):=by
     have:=congrArg (·[0]?) hc
     simpa[H0,G5] using this
    have h2:(xs.map (·.1))[i]? = some (DataW.lit (.string s.data.toList):DataW H):=by simp[hb]
    rw[hxs,x9,hz] at h2
    have h3:z=s.data.toList:=by simpa using h2
    rw[h1,h3]
   ·cases h
theorem Dd {W:World} (h:laidMetH Tryz.prog vq W):∃o,rP 3 o W∧ji o:=by
 rw[MakeChecks.laidMetH_plain _ _ _ c8] at h
 have hwordsT:∀(i:Nat) z,Src.gz[i]? = some z→W.cell? ⟨3,i,none⟩=some (.string ⟨z.toArray⟩):=by
  obtain⟨g,t,cs,fuel,p,hg,hty,hvar,hd⟩:=laidMet.reads h (n:= "seedcorn/token.words") (d:=Rows.laid_seedcorn_token_words) (by simp[vq])
  obtain rfl:=E7 ((show Tryz.prog.globalNamed "seedcorn/token.words" = some 3 by kernel_rfl).symm.trans hg)
  obtain rfl:=E7 ((show (Tryz.prog.globals[3]?).map (·.type)=some 327 by kernel_rfl).symm.trans hty)
  intro i z hz
  have hc:=nN (H:=Unit) (zs:=Src.gz) (show Tryz.prog.underlying 327=some (.array 10 9) by kernel_rfl) u9 c8 c8 hd i z hz
  rw[World.var?_cell hg hvar i,←G7]
  exact hc
 have hsignsT:∀(i:Nat) z,Src.Ob[i]? = some z→W.cell? ⟨0,i,none⟩=some (.string ⟨z.toArray⟩):=by
  obtain⟨g,t,cs,fuel,p,hg,hty,hvar,hd⟩:=laidMet.reads h (n:= "seedcorn/token.signs") (d:=Rows.laid_seedcorn_token_signs) (by simp[vq])
  obtain rfl:=E7 ((show Tryz.prog.globalNamed "seedcorn/token.signs" = some 0 by kernel_rfl).symm.trans hg)
  obtain rfl:=E7 ((show (Tryz.prog.globals[0]?).map (·.type)=some 316 by kernel_rfl).symm.trans hty)
  intro i z hz
  have hc:=nN (H:=Unit) (zs:=Src.Ob) (show Tryz.prog.underlying 316=some (.array 24 9) by kernel_rfl) u9 c8 c8 hd i z hz
  rw[World.var?_cell hg hvar i,←G7]
  exact hc
 have h0:=hwordsT 0 _ rfl
 have hlt:3<W.heap.size:=by
  refine Nat.lt_of_not_le fun hle=>?_
  simp[World.cell?,J3 hle] at h0
 refine⟨fun b=>W.heap[b]?,⟨hlt,fun _ _=>rfl⟩,fun w hw=>⟨fun i t ht=>?_,fun i t ht=>?_⟩⟩
 ·rw[←hwordsT i t ht]
  unfold World.cell?
  rw[show w.heap[3]? = W.heap[3]? from hw.2 3 a8]
 ·rw[←hsignsT i t ht]
  unfold World.cell?
  rw[show w.heap[0]? = W.heap[0]? from hw.2 0 a8]
end
section
open Go Go.Am Go.Asm
open Go.Src (Ex Stm inE pC inS oF)
section
theorem MQ {v:Value}{cs:List Value}{n:Nat} (h:v.cells.toList=cs) (hl:cs.length=n+2):v=.agg cs.toArray:=by
 subst h
 cases v with
 |agg vs=>simp[Value.cells]
 |_=>simp[Value.cells] at hl
theorem u49:Tryz.prog.underlying 49=some (.slice 51):=c8
theorem u51:Tryz.prog.underlying 51=some (Tt 51).desc:=c8
theorem u52:Tryz.prog.underlying 52=some (.slice 54):=c8
theorem u54:Tryz.prog.underlying 54=some (Tt 54).desc:=c8
theorem u22:Tryz.prog.underlying 22=some (.slice 9):=c8
theorem u23:Tryz.prog.underlying 23=some (.slice 65):=c8
theorem u65:Tryz.prog.underlying 65=some (Tt 65).desc:=c8
theorem u24:Tryz.prog.underlying 24=some (.slice 56):=c8
theorem u56:Tryz.prog.underlying 56=some (Tt 56).desc:=c8
theorem u26:Tryz.prog.underlying 26=some (Tt 26).desc:=c8
theorem tA {n b:Nat} (h:n*b≤reachBytes) (hb:Nat.ble 1 b=true):n≤1000000000000000000:=by
 have h1:=I5 hb
 have h2:n≤n*b:=T7 _ h1
 rw[Fg] at h
 omega
theorem Bq:∀{l:List Ex},(∀e∈l,inE e∧Src.MF e)→pC l∧Src.Bo l
 |[],_=>⟨trivial,trivial⟩
 |e::l,h=>by
   have h1:=h e a7
   have h2:=Bq (l:=l) fun x hx=>h x (by simp[hx])
   exact⟨⟨h1.1,h2.1⟩,h1.2,h2.2⟩
theorem Br:∀{l:List Stm},(∀e∈l,inS e∧Src.MG e)→oF l∧Src.xN l
 |[],_=>⟨trivial,trivial⟩
 |e::l,h=>by
   have h1:=h e a7
   have h2:=Br (l:=l) fun x hx=>h x (by simp[hx])
   exact⟨⟨h1.1,h2.1⟩,h1.2,h2.2⟩
theorem MR {m:Int} (h:(Lit.int .u32 m).wf=true):0≤m∧m<4294967296:=by
 simp only[Lit.wf,l6,A6] at h
 have e1:IntKind.u32.min=0:=rfl
 have e2:IntKind.u32.max=4294967295:=rfl
 omega
theorem five {α:Type}{l:List α} (h:l.length=5):∃a b c d e,l=[a,b,c,d,e]:=by
 match l,h with
 |[a,b,c,d,e],_=>exact⟨a,b,c,d,e,rfl⟩
variable {ds:List D}
theorem MS {t:TypeId} (h:eW Tryz.prog t ds):(t=51→∃e,ds=exD e∧inE e∧Src.MF e)∧(t=49→∃l:List Ex,ds=[.sl (l.map exD)]∧l.length≤1000000000000000000∧pC l∧Src.Bo l):=by
 induction h with
 |bool hu=>exact⟨fun e=>(by subst e;rw[u51] at hu;cases hu),fun e=>(by subst e;rw[u49] at hu;cases hu)⟩
 |int hu=>exact⟨fun e=>(by subst e;rw[u51] at hu;cases hu),fun e=>(by subst e;rw[u49] at hu;cases hu)⟩
 |str hu=>exact⟨fun e=>(by subst e;rw[u51] at hu;cases hu),fun e=>(by subst e;rw[u49] at hu;cases hu)⟩
 |array hu=>exact⟨fun e=>(by subst e;rw[u51] at hu;cases hu),fun e=>(by subst e;rw[u49] at hu;cases hu)⟩
 |sl hu es hl h ih=>
   refine⟨fun e=>(by subst e;rw[u51] at hu;cases hu),fun e=>?_⟩
   subst e
   rw[u49] at hu
   cases hu
   obtain⟨l,rfl,hq⟩:=nn (f:=exD) (Q:=fun e=>inE e∧Src.MF e) fun x hx=>(ih x hx).1 rfl
   rw[j4] at hl
   obtain⟨a,b⟩:=Bq hq
   exact⟨l,rfl,tA hl c8,a,b⟩
 |struct hu parts hl h ih=>
   refine⟨fun e=>?_,fun e=>(by subst e;rw[u49] at hu;cases hu)⟩
   subst e
   rw[u51] at hu
   cases hu
   obtain⟨a,b,c,d,e,rfl⟩:=five hl
   obtain⟨m1,rfl,_⟩:=(h 0 _ a rfl rfl).inv_int u3
   obtain⟨m2,rfl,_⟩:=(h 1 _ b rfl rfl).inv_int u3
   obtain⟨m3,rfl,w3⟩:=(h 2 _ c rfl rfl).inv_int u48
   obtain⟨m4,rfl,_⟩:=(h 3 _ d rfl rfl).inv_str u9
   obtain⟨l,rfl,h1,h2,h3⟩:=(ih 4 _ e rfl rfl).2 rfl
   exact⟨.mk m1 m2 m3 m4 l,by simp[exD,aw],⟨h1,h2⟩,MR w3,h3⟩
theorem MT {t:TypeId} (h:eW Tryz.prog t ds):(t=54→∃e,ds=smD e∧inS e∧Src.MG e)∧(t=52→∃l:List Stm,ds=[.sl (l.map smD)]∧l.length≤1000000000000000000∧oF l∧Src.xN l):=by
 induction h with
 |bool hu=>exact⟨fun e=>(by subst e;rw[u54] at hu;cases hu),fun e=>(by subst e;rw[u52] at hu;cases hu)⟩
 |int hu=>exact⟨fun e=>(by subst e;rw[u54] at hu;cases hu),fun e=>(by subst e;rw[u52] at hu;cases hu)⟩
 |str hu=>exact⟨fun e=>(by subst e;rw[u54] at hu;cases hu),fun e=>(by subst e;rw[u52] at hu;cases hu)⟩
 |array hu=>exact⟨fun e=>(by subst e;rw[u54] at hu;cases hu),fun e=>(by subst e;rw[u52] at hu;cases hu)⟩
 |sl hu es hl h ih=>
   refine⟨fun e=>(by subst e;rw[u54] at hu;cases hu),fun e=>?_⟩
   subst e
   rw[u52] at hu
   cases hu
   obtain⟨l,rfl,hq⟩:=nn (f:=smD) (Q:=fun e=>inS e∧Src.MG e) fun x hx=>(ih x hx).1 rfl
   rw[j4] at hl
   obtain⟨a,b⟩:=Br hq
   exact⟨l,rfl,tA hl c8,a,b⟩
 |struct hu parts hl h ih=>
   refine⟨fun e=>?_,fun e=>(by subst e;rw[u52] at hu;cases hu)⟩
   subst e
   rw[u54] at hu
   cases hu
   obtain⟨a,b,c,d,e,rfl⟩:=five hl
   obtain⟨m1,rfl,_⟩:=(h 0 _ a rfl rfl).inv_int u3
   obtain⟨m2,rfl,_⟩:=(h 1 _ b rfl rfl).inv_str u9
   obtain⟨l,rfl,h1,h2,h3⟩:=(MS (h 2 _ c rfl rfl)).2 rfl
   obtain⟨l1,rfl,g1,g2,g3⟩:=(ih 3 _ d rfl rfl).2 rfl
   obtain⟨l2,rfl,k1,k2,k3⟩:=(ih 4 _ e rfl rfl).2 rfl
   exact⟨.mk m1 m2 l l1 l2,by simp[smD,aw,cK],⟨⟨h1,h2⟩,⟨g1,g2⟩,k1,k2⟩,h3,g3,k3⟩
theorem tB (h:eW Tryz.prog 22 ds):∃l:List Str,ds=[.sl (l.map fun s=>[.str s])]∧l.length≤1000000000000000000:=by
 obtain⟨es,rfl,hl,hh⟩:=h.inv_sl u22
 obtain⟨l,rfl,_⟩:=nn (f:=fun s:Str=>[D.str s]) (Q:=fun _=>True) fun x hx=>by
  obtain⟨s,rfl,_⟩:=(hh x hx).inv_str u9
  exact⟨s,rfl,trivial⟩
 rw[j4] at hl
 exact⟨l,rfl,tA hl c8⟩
def TG (f:Src.Fn):Prop:=((f.params.length≤1000000000000000000∧f.locals.length≤1000000000000000000)∧f.body.length≤1000000000000000000∧oF f.body)∧Src.xN f.body
theorem MU (h:eW Tryz.prog 56 ds):∃f,ds=fnD f∧TG f:=by
 obtain⟨parts,rfl,hl,hh⟩:=h.inv_struct u56
 obtain⟨a,b,c,d,e,rfl⟩:=five hl
 obtain⟨m1,rfl,_⟩:=(hh 0 _ a rfl rfl).inv_str u9
 obtain⟨l1,rfl,h1⟩:=tB (hh 1 _ b rfl rfl)
 obtain⟨l2,rfl,h2⟩:=tB (hh 2 _ c rfl rfl)
 obtain⟨w,rfl⟩:=(hh 3 _ d rfl rfl).inv_bool u4
 obtain⟨l3,rfl,h3,h4,h5⟩:=(MT (hh 4 _ e rfl rfl)).2 rfl
 exact⟨⟨m1,l1,l2,w,l3⟩,rfl,⟨⟨h1,h2⟩,h3,h4⟩,h5⟩
theorem MV (h:eW Tryz.prog 65 ds):∃a,ds=arD a∧True:=by
 obtain⟨parts,rfl,hl,hh⟩:=h.inv_struct u65
 obtain⟨a,b,rfl⟩:∃a b,parts=[a,b]:=by
  match parts,hl with
  |[a,b],_=>exact⟨a,b,rfl⟩
 obtain⟨m1,rfl,_⟩:=(hh 0 _ a rfl rfl).inv_str u9
 obtain⟨m2,rfl,_⟩:=(hh 1 _ b rfl rfl).inv_int u3
 exact⟨(m1,m2),rfl,trivial⟩
theorem Fh (h:eW Tryz.prog 26 ds):∃p,ds=iq p∧Src.InP p∧Src.Ab p:=by
 obtain⟨parts,rfl,hl,hh⟩:=h.inv_struct u26
 obtain⟨a,b,c,rfl⟩:∃a b c,parts=[a,b,c]:=by
  match parts,hl with
  |[a,b,c],_=>exact⟨a,b,c,rfl⟩
 obtain⟨l1,rfl,h1⟩:=tB (hh 0 _ a rfl rfl)
 obtain⟨e2,rfl,k2,hh2⟩:=(show eW Tryz.prog 23 b from hh 1 _ b rfl rfl).inv_sl u23
 obtain⟨e3,rfl,k3,hh3⟩:=(show eW Tryz.prog 24 c from hh 2 _ c rfl rfl).inv_sl u24
 obtain⟨l2,rfl,_⟩:=nn fun x hx=>MV (hh2 x hx)
 obtain⟨l3,rfl,h3⟩:=nn fun x hx=>MU (hh3 x hx)
 rw[j4] at k2 k3
 exact⟨⟨l1,l2,l3⟩,rfl,⟨h1,tA k2 c8,tA k3 c8,fun f hf=>(h3 f hf).1⟩,fun f hf=>(h3 f hf).2⟩
end
end
section
open Go Go.Am
def TH:List FuncId:=[4,8,16,37,76,77,118,189,119,120,190,117,121,122,191,237,258,259,269,271,270,272,260,261,75,115,185,230,186,187,188,231,232,233,234,236,235,238,116,78,123,124,192,125,193,239,194,240,38,10,24,58,93,144,211,145,212,147,148,146,213,214,94,149,215,216,221,254,217,218,219,150,220,151,59,60,95,96,25,26,28,64,102,180,223,224,255,181,225,256,103,27,61,97,152,153,154,155,222,156,62,98,157,158,99,159,160,161,162,163,164,165,166,167,168,169,170,171,172,173,174,175,100,176,63,101,177,178,179,39,18,43,44,21,55,23,22,57,56,92,142,206,250,264,265,266,143,207,208,209,210,251,267,268,252,253,13,31,32,66,14,33,67,68,105,106,129,131,130,127,69,107,183,229,34,70,45,108,49,46,47,86,109,71,35,72,110,111,73,112,184,113,11,15,36,74,114]
theorem clo:Tryz.prog.closure 4=TH:=c8
theorem Fi:Tryz.prog.unfollowed 4=true:=by
 unfold Program.unfollowed
 rw[clo]
 kernel_rfl
theorem QL:Tryz.prog.recurses 4=true:=by
 unfold Program.recurses
 rw[Fi]
 rfl
theorem QM:(Rows.stackcErrsRow.inPlace==Tryz.prog.inPlace 4)=true:=by
 unfold Program.inPlace
 rw[clo]
 kernel_rfl
theorem QN:(Rows.stackcErrsRow.named==Tryz.prog.varsNamed 4)=true:=by
 unfold Program.varsNamed
 rw[clo]
 kernel_rfl
theorem MW:Tryz.prog.goes 4=false:=by
 unfold Program.goes
 rw[clo,Fi]
 kernel_rfl
theorem IL:joinedFacts Tryz.prog 4 Tryz.f4 Rows.stackcErrsSpec Rows.stackcErrsRow=true:=by
 unfold joinedFacts
 rw[QM,QN,Fi,QL]
 kernel_rfl
theorem Fj:false=Rows.stackcErrsRow.goesBy Tryz.prog:=by
 unfold OpenClaim.goesBy Program.goesAt Program.goesFrom
 rw[show Tryz.prog.funcNamed Rows.stackcErrsRow.func=some 4 by kernel_rfl]
 simp only[Option.any_some,MW,T2]
 rfl
end
end Go.Proofs.YtgbcmokfgbmabaaGreatDoorR

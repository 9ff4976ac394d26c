/- A part of the proof; no conditions. -/
import Derived.Test.YtlglgadejgdpcaaGreatDoorPart18
import Derived.Lib.LaidTab
import Derived.Lib.LaidU8
import Derived.OpenShut
import Derived.Laws.IdiomArrays
import Derived.Test.YtlglgadejgdpcaaGreatDoorTie
import Derived.Test.YtlglgadejgdpcaaGreatDoorCards
set_option linter.unusedSimpArgs false
set_option linter.unusedVariables false
set_option maxHeartbeats 64000000
set_option maxRecDepth 100000
namespace Go.Proofs.YtlglgadejgdpcaaGreatDoor.Low
section
open Go Go.Am Go.Lower
open Go.Emit (Wr ao au ar oU ea gY eF)
open Go.Src (aq cn)
section
def dO (p:Src.Prog):Emit.Plan:=Emit.ux (aq p).words (aq p).funcs
variable {p:Src.Prog}
theorem uI{N:Nat} (h:szP p≤N):p.funcs.length≤N∧(p.funcs.map fun f=>Src.bt f.body).sum≤N∧∀f∈p.funcs,f.params.length≤N∧f.params.length+f.locals.length≤N:=by
 have h2:=pT p.funcs
 refine⟨by unfold szP at h;omega,by unfold szP at h;omega,fun f hf=>?_⟩
 have:=mr hf
 omega
theorem QP (h:cn p=0) (hsz:szP p≤2000) (hw:(aq p).words≤32768) (hd:(dO p).data≤32768):Ok (aq p).words (aq p).funcs (dO p):=by
 obtain⟨hr,_,_⟩:=Src.wN h
 have hl:1≤p.funcs.length∧p.funcs.length≤64:=by unfold Src.dE at hr;simp at hr;exact hr.1.1
 obtain⟨_,hsum,hps⟩:=uI hsz
 have H:Emit.BX (aq p).funcs (dO p) 2000:=Emit.QV h fun f hf=>(hps f hf).1
 have hfl:=Emit.xM p
 have htot:Emit.oX (aq p).funcs 2000 (aq p).funcs.length≤48574000:=A9 (Emit.MS hl.2 hsum) c8
 have hdp:∀ds∈(dO p).depths,∃x∈(aq p).funcs,ds=Emit.ke (Emit.gz x):=fun ds hds=>by
  obtain⟨k,hk⟩:=C2 hds
  obtain⟨x,h1,h2⟩:=Emit.Jd hk
  exact⟨x,l8 h1,h2⟩
 have hcd:∀x∈(aq p).funcs,(Emit.gz x).length≤12128:=fun x hx=>by
  have h1:=Src.Lt x.word x.body
  have h2:=Src.GT (fun x:Src.CFn=>Src.ll x.body) hx
  have h3:((aq p).funcs.map fun x=>Src.ll x.body).sum=(p.funcs.map fun f=>Src.bt f.body).sum:=Src.wQ _ _ _
  unfold Emit.gz
  omega
 have hgo:=Emit.Ah (aq p).funcs.length (dO p).depths 0 (aq p).words (fun o _=>Emit.xL o 0)
 have hw0:0≤(aq p).words:=by
  have h1:=Emit.Ja h
  have h2:(Src.aN p).2≤(aq p).words:=Src.tQ _ _ _
  omega
 have hdata:(dO p).data=(Emit.gp (aq p).funcs.length 0 (dO p).depths (aq p).words).2.2:=rfl
 have hbase:(dO p).base=(Emit.gp (aq p).funcs.length 0 (dO p).depths (aq p).words).2.1:=rfl
 have hback:(dO p).back=(Emit.gp (aq p).funcs.length 0 (dO p).depths (aq p).words).1:=rfl
 have hlen:=Emit.ra (aq p).funcs.length (dO p).depths 0 (aq p).words
 have hok:∀x∈(aq p).funcs,∀y∈Emit.gz x,zp (aq p).funcs y.1:=fun x hx y hy=>by
  obtain⟨h1,h2,_⟩:=Emit.BY h hx hy
  exact⟨h1,h2⟩
 have hF:∀(d:gY) (f N:Nat),d.code.length≤N→d.holes.length≤N→N+Emit.szF (aq p).funcs 2000 f≤100000000→tB (aq p).funcs (dO p) d f:=fun d f N hc hh hN=>by
  refine⟨fun x hx=>hok x (l8 hx),fun x ds hx hds=>?_,fun x hx=>?_,fun x ds hx hds j hj=>?_,fun x ds hx hds j hj=>?_⟩
  ·obtain⟨x',h1,h2⟩:=Emit.Jd hds
   rw[hx] at h1
   cases h1
   rw[h2]
   exact(Emit.Ls h (l8 hx)).1
  ·have:=hcd x (l8 hx)
   unfold Emit.gz at this
   omega
  ·have:=(H.fits hx ds j d.code.length).1
   have hsz:Emit.szF (aq p).funcs 2000 f=7+(Emit.gz x).length*(2*2000+5):=by unfold Emit.szF;rw[hx]
   have hm:j*(2*2000+5)≤(Emit.gz x).length*(2*2000+5):=J6 _ hj
   unfold Emit.gz at this hsz hm
   omega
  ·have hq:=(H.fits hx ds j d.code.length).2.1
   have hsz:Emit.szF (aq p).funcs 2000 f=7+(Emit.gz x).length*(2*2000+5):=by unfold Emit.szF;rw[hx]
   have hm:j≤(Emit.gz x).length*(2*2000+5):=by
    have:j≤(Emit.gz x).length:=hj
    omega
   unfold Emit.gz at hsz hm hq
   omega
 have hU:=fun k hk=>Emit.Ff H k hk
 have hlast:=fun k (hk:k≤(aq p).funcs.length-1)=>Emit.Lr (aq p).funcs 2000 (k:=k) a7 hk
 have hW:=hU ((aq p).funcs.length-1) (l4 _)
 have hWl:=hlast ((aq p).funcs.length-1) (l4 _)
 refine⟨a7,by simp[dO,Emit.ux],?_,?_,a7,fun x hx=>?_,fun ds hds d hd=>?_,fun x hx=>?_,fun x hx=>?_,?_,?_,fun j hj=>?_,?_,?_,fun q hq=>?_⟩
 ·rw[hback,hlen.1];simp[dO,Emit.ux]
 ·rw[hbase,hlen.2];simp[dO,Emit.ux]
 ·rw[hbase] at hx
  have:=hgo.2 x hx
  omega
 ·obtain⟨x,hx,rfl⟩:=hdp ds hds
  have:=(Emit.Ls h hx).2 d hd
  have:=hcd x hx
  omega
 ·obtain⟨f,w,h1,h2,rfl,h4⟩:=Emit.Jb hx
  have:=hps f h1
  have:=Emit.Ja h
  simp only[Src.mf]
  omega
 ·obtain⟨f,w,h1,h2,rfl,h4⟩:=Emit.Jb hx
  have:=hps f h1
  simp only[Src.mf]
  omega
 ·rw[hdata];omega
 ·refine hF _ _ 1 a8 a8 ?_
  have:=hlast 0 (K9 _)
  omega
 ·refine hF _ _ _ (hU j a7).c (hU j a7).hl ?_
  have h1:=hlast (j+1) a7
  rw[Emit.oX] at h1
  omega
 ·exact A9 hW.c a7
 ·exact A9 hW.hl a7
 ·obtain⟨a1,a2,⟨a3,a4⟩,a5⟩:=hW.h q hq
  refine⟨⟨a1,a2⟩,⟨a3,a4⟩,fun h0=>?_⟩
  obtain⟨x,e1,e2⟩:=a5 h0
  have hfx:=(l5.1 e1).1
  obtain⟨x',l,e3,e4,e5⟩:=hW.p q.2.1.toNat a7
  rw[e1] at e3
  cases e3
  exact⟨l,e4,a7⟩
theorem JW {o:bF} (h:cn p=0) (hsz:szP p≤2000) (hw:(aq p).words≤32768):bj Tryz.prog 3 o 33 [gu (aq p).words (aq p).funcs] (· = tD (aq p).funcs (dO p)):=by
 obtain⟨hr,_,_⟩:=Src.wN h
 have hl:1≤p.funcs.length∧p.funcs.length≤64:=by unfold Src.dE at hr;simp at hr;exact hr.1.1
 obtain⟨_,hsum,hps⟩:=uI hsz
 have hfl:=Emit.xM p
 have hw0:0≤(aq p).words:=by
  have h1:=Emit.Ja h
  have h2:(Src.aN p).2≤(aq p).words:=Src.tQ _ _ _
  omega
 have hcd:∀x∈(aq p).funcs,(Emit.gz x).length≤12128:=fun x hx=>by
  have h1:=Src.Lt x.word x.body
  have h2:=Src.GT (fun x:Src.CFn=>Src.ll x.body) hx
  have h3:((aq p).funcs.map fun x=>Src.ll x.body).sum=(p.funcs.map fun f=>Src.bt f.body).sum:=Src.wQ _ _ _
  unfold Emit.gz
  omega
 refine QO (fun hd=>QP h hsz hw hd) ?_
 refine JK (dO p).depths (by simp[dO,Emit.ux]) ⟨hw0,a7⟩ a7 (fun ds hds=>?_) (fun f ds hd=>?_)
 ·obtain⟨k,hk⟩:=C2 hds
  obtain⟨x,h1,rfl⟩:=Emit.Jd hk
  have hx:=l8 h1
  have:=hcd x hx
  obtain⟨e1,e2⟩:=Emit.Ls h hx
  exact⟨fun d hd=>by have:=e2 d hd;omega,a7⟩
 ·obtain⟨x,h1,rfl⟩:=Emit.Jd hd
  have hx:=l8 h1
  have:=hcd x hx
  obtain⟨h0,hg⟩:=Emit.tg h hx
  have hsig:Gh (aq p).funcs=Src.sigs p.funcs:=Emit.Jc p
  refine(CU (w:=(aq p).words) h1 (cd:=Emit.gz x) rfl a7 (fun _=>rfl) h0 (by rw[hsig];exact hg)).mono ?_
  rintro r ⟨_,rfl⟩
  rfl
end
end
end Go.Proofs.YtlglgadejgdpcaaGreatDoor.Low
namespace Go.Am
section
attribute [local congr] Go.Am.ite_cc
section
section
variable {P:Program}{T:Nat→TI}{b₀:Bs}{rd:Option Nat}{gb:Nat}{o:bF}{Ψ:fF}{B0:Nat}
theorem mw {Φ:St→Loc→List Deferred→World→Prop} (hΦ:aE b₀ Φ) (hG:∀s β ds w,Φ s β ds w→nF b₀ gb o w) {op:Oper}{s:St}{K:St→Prop}{k:Box K}{t:Nat}{args:Array Operand}{tys:Array TypeId} (ho:op.op=.call ⟨.value (.tmp t),args,tys⟩) {f:FuncId} (hf:s.f t=.one (.d (.fn f))) {R:AV→Prop}
  (hp:bj P gb o f (args.toList.map s.ev) R) (hd:(args.toList.map s.ev).all eE=true) (hk:∀r,R r→K (s.put op.dst r)):aS (spF P rd b₀ Φ B0 Ψ) op s k:=by
 refine⟨fun s'=>∃r,R r∧s'=s.put op.dst r,?_,fun _ ⟨r,hr,e⟩=>e▸hk r hr⟩
 intro N β a ds w hr hφ hdst next Q hn _
 have hnd:aA op=true:=by simp[aA,ho]
 refine eL hnd ?_
 have hv:=hr.f t
 rw[hf] at hv
 simp only[ag,aw] at hv
 have hv:a.tmps.getD t undef=.func (.func f) #[] #[]:=by generalize a.tmps.getD t undef=v at hv;cases hv;rfl
 have hrun:(execOp a.eval op).run P w=.ok (.enter f (args.map a.eval)) w:=by
  obtain⟨fn,h1,h2,h3⟩:=hp.1
  have h2:¬fn.body=none:=by intro h;rw[h] at h2;simp at h2
  have h3:¬fn.name = "runtime.NumGoroutine":=by simpa using h3
  simp[execOp,ho,resolve,Act.eval,hv,Deferred.ofValue,invoke,callFunc,h1,h2,h3]
 unfold Oper.wp
 rw[hrun]
 simp only[Oper.upon]
 have hargs:∀l:List Operand,(l.map s.ev).all eE=true→RVs (Imm b₀ β s.obj w) w (l.map s.ev) (l.map a.eval):=by
  intro l
  induction l with
  |nil=>intro _;simp only[v7,RVs]
  |cons x l ih=>
    intro h
    simp only[l7,D1,l9] at h
    simp only[l7,RVs]
    exact⟨_,_,rfl,ag.data h.1 (hr.ev x),ih h.2⟩
 have:=hp.2 (Imm b₀ β s.obj w) w (args.toList.map a.eval) (hG _ _ _ _ hφ).2 (fun _ h=>h.1) (hargs _ hd)
 rw[show (args.toList.map a.eval).toArray=args.map a.eval from F7 a8] at this
 refine this.mono fun e w' ⟨v,r,he,hR,hs,hh,hos,hv⟩=>?_
 subst he
 obtain⟨g1,g2⟩:=hr.grow hs hh hos
 have g3:=g2.trans (Tr.same (St.put_gen s op.dst r) (St.put_obj s op.dst r) rfl)
 have h1:=g1.put hdst (RV.rep r (RV.mono (fun b hb=>⟨qs hr (J:=fun b=>Imm b₀ β s.obj w b∨b≤gb) (fun b h=>h.elim id (qO hr (hG _ _ _ _ hφ))) hb,rfl⟩) r hv))
 exact⟨h1.defers,hn _ β _ w' ⟨r,hR,rfl⟩ h1 (hΦ _ _ _ _ _ _ _ hφ g3)⟩
end
end
end
end Go.Am
namespace Go.Proofs.YtlglgadejgdpcaaGreatDoor.Low
section
attribute [local congr] Go.Am.ite_cc
open Go Go.Am Go.Lower
open Go.Emit (Wr ao au ar oU ea gY eF)
open Go.Src (aq gO cn)
section
def pV (fs:List Src.CFn) (P:Emit.Plan):(List Nat×Nat)×Nat:=
 if 32768<P.data then(([],0),2)
 else
  let c:=Emit.filled (Emit.whole fs P)
  if 16384<c.length then(([],0),2) else if c.all ru then((c.map ki,P.data.toNat),0) else(([],0),2)
def qn (r:(List Nat×Nat)×Nat):AV:=.tup [fj r.1,iv .i64 (r.2:Nat)]
theorem Dc {fs:List Src.CFn}{P:Emit.Plan} (h:0≤P.data):tD fs P=qn (pV fs P):=by
 unfold tD pV
 split
 ·rfl
 ·simp only
  split
  ·rfl
  ·split
   ·unfold qn nq fj
    simp only
    rw[Int.toNat_of_nonneg h]
    rfl
   ·rfl
theorem wu (fs:List Src.CFn) (P:Emit.Plan):(pV fs P).1.1.length≤16384∧(pV fs P).1.2≤32768:=by
 unfold pV
 split
 ·simp
 ·simp only
  split
  ·simp
  ·split
   ·simp only[j6];omega
   ·simp
def ed (p:Src.Prog):(List Nat×Nat)×Nat:=if (gO p).2≠0 then(([],0),(gO p).2) else pV (aq p).funcs (dO p)
theorem nS (p:Src.Prog):(ed p).1.1.length≤16384∧(ed p).1.2≤32768:=by
 unfold ed
 split
 ·simp
 ·exact wu _ _
variable {o:bF}{p:Src.Prog}{s:St}{e:Nat}{t:Asm.Str}
theorem Dd (h:(gO p).2=0):cn p=0∧(aq p).words≤32768∧(gO p).1=aq p:=by
 unfold gO at h ⊢
 by_cases h1:cn p=0
 ·rw[if_neg (by simp[h1])] at h ⊢
  by_cases h2:32768<(aq p).words
  ·rw[if_pos h2] at h;cases h
  ·rw[if_neg h2];exact⟨h1,a7,rfl⟩
 ·rw[if_pos h1] at h;exact absurd h h1
theorem qw{code:List Nat}{d e:Int}:mZ s [.agg [.d (dt code),.d (.int .i64 d)],iv .i64 e] (.tup [.agg [.d (dt code),.d (.int .i64 d)],iv .i64 e]):=by
 refine⟨_,⟨.agg [.d (dt code),.d (.int .i64 d)],_,rfl,⟨[dt code,.int .i64 d],rfl,fun i c hc'=>?_,rfl⟩,_,_,rfl,⟨_,.d _,rfl⟩,rfl⟩,rfl⟩
 match i,hc' with
 |0,hc'=>cases hc';exact⟨_,rfl,.d _⟩
 |1,hc'=>cases hc';exact⟨_,rfl,.d _⟩
theorem De{n:Int}:mZ s [sv t,iv .i64 n] (.tup [sv t,iv .i64 n]):=⟨_,⟨_,_,rfl,⟨_,.d _,rfl⟩,_,_,rfl,⟨_,.d _,rfl⟩,rfl⟩,rfl⟩
theorem Gs{n m:Int}:mZ s [sv t,iv .i64 n,iv .i64 m] (.tup [sv t,iv .i64 n,iv .i64 m]):=⟨_,⟨_,_,rfl,⟨_,.d _,rfl⟩,_,_,rfl,⟨_,.d _,rfl⟩,_,_,rfl,⟨_,.d _,rfl⟩,rfl⟩,rfl⟩
theorem Df (h:(gO p).2=0) (hsz:szP p≤2000):bj Tryz.prog 3 o 32 [mO (gO p).1] (· = qn (ed p)):=by
 obtain⟨h1,h2,h3⟩:=Dd h
 have hd:0≤(dO p).data:=by
  have hgo:=Emit.Ah (aq p).funcs.length (dO p).depths 0 (aq p).words (fun o _=>Emit.xL o 0)
  have hg:=Emit.Ja h1
  have hc:(Src.aN p).2≤(aq p).words:=Src.tQ _ _ _
  have:(dO p).data=(Emit.gp (aq p).funcs.length 0 (dO p).depths (aq p).words).2.2:=rfl
  omega
 have hE:=JW (o:=o) h1 hsz h2
 rw[Dc hd] at hE
 have hL:=Gg h1 (by omega:szP p≤1000000)
 have hI:ed p=pV (aq p).funcs (dO p):=if_neg (by simp[h])
 rw[h3,hI]
 obtain⟨r,hr⟩:∃r,pV (aq p).funcs (dO p)=r:=⟨_,rfl⟩
 rw[hr] at hE ⊢
 obtain⟨⟨code,data⟩,e⟩:=r
 have hcV:mO (aq p)=.agg [.d (.int .i64 (aq p).words),.d (.sl ((aq p).funcs.map cfD))]:=rfl
 rw[hcV] at hL ⊢
 refine ap 0 3 o ae mixed Tryz.func32 rfl b9 [.cell 2 35,.tmp 3] rfl c9 c9 (by simp[Tryz.ntmps32]) fun b₀ β0 s0 w0 g=>?_
 simp only[go_sem]
 refine aR ab rfl (by simp only[go_sem];exact hL) b9 ?_
 rintro _ rfl
 simp only[go_sem,gu]
 refine aj ab (fun s β ds w h=>h.1.2) rfl (by simp only[go_sem];exact hE) b9 ?_
 rintro _ rfl
 unfold qn fj
 simp only[go_sem]
 exact⟨_,qw,rfl⟩
theorem Gt{c:Src.Core}{r:(List Nat×Nat)×Nat} (he:e=0→bj Tryz.prog 3 o 32 [mO c] (· = qn r)):bj Tryz.prog 3 o 31 [mO c,iv .i64 (e:Nat),.one (.d (.fn 32))] (· = qn (if e≠0 then(([],0),e) else r)):=by
 have hcV:mO c=.agg [.d (.int .i64 c.words),.d (.sl (c.funcs.map cfD))]:=rfl
 rw[hcV] at he ⊢
 refine ap 0 3 o ae mixed Tryz.func31 rfl b9 [.cell 6 35,.tmp 7] rfl c9 c9 (by simp[Tryz.ntmps31]) fun b₀ β0 s0 w0 g=>?_
 by_cases h:e=0
 ·subst h
  rw[if_neg a8]
  simp only[go_sem]
  refine mw ab (fun s β ds w h=>h.1.2) rfl (by simp only[go_sem];rfl) (by simp only[go_sem];exact he rfl) (by simp only[go_sem];rfl) ?_
  rintro _ rfl
  unfold qn fj
  simp only[go_sem]
  exact⟨_,qw,rfl⟩
 ·rw[if_pos h]
  have hi:¬(e:Int)=0:=a7
  simp only[go_sem,hi]
  exact⟨_,lV,rfl⟩
theorem Gu (ho:gv o) (hsz:szP p≤2000):bj Tryz.prog 3 o 10 [ep p] (· = qn (ed p)):=by
 have hC:=JB ho p a7
 have hT:=Gt (o:=o) (c:=(gO p).1) (e:=(gO p).2) (r:=ed p) (fun he=>Df he hsz)
 have hI:(if (gO p).2≠0 then(([],0),(gO p).2) else ed p)=ed p:=by
  unfold ed
  split <;> rfl
 rw[hI] at hT
 obtain⟨r,hr⟩:∃r,ed p=r:=⟨_,rfl⟩
 rw[hr] at hT ⊢
 obtain⟨⟨code,data⟩,e⟩:=r
 obtain⟨c,hc⟩:∃c,gO p=c:=⟨_,rfl⟩
 rw[hc] at hC hT
 obtain⟨c,ec⟩:=c
 have hcV:mO c=.agg [.d (.int .i64 c.words),.d (.sl (c.funcs.map cfD))]:=rfl
 simp only at hC hT
 rw[hcV] at hC hT
 have hpV:ep p=.agg [.d (.sl (p.vars.map fun s=>[.str s])),.d (.sl (p.arrays.map arD)),.d (.sl (p.funcs.map fnD))]:=rfl
 rw[hpV] at hC ⊢
 refine ap 0 3 o ae mixed Tryz.func10 rfl b9 [.cell 2 35,.tmp 3] rfl c9 c9 (by simp[Tryz.ntmps10]) fun b₀ β0 s0 w0 g=>?_
 simp only[go_sem]
 refine aj ab (fun s β ds w h=>h.1.2) rfl (by simp only[go_sem];exact hC) (by simp only[go_sem];rfl) ?_
 rintro _ rfl
 simp only[go_sem]
 refine aj ab (fun s β ds w h=>h.1.2) rfl (by simp only[go_sem];exact hT) (by simp only[go_sem];rfl) ?_
 rintro _ rfl
 unfold qn fj
 simp only[go_sem]
 exact⟨_,qw,rfl⟩
theorem Gv (ho:gv o) (hsz:e=0→szP p≤2000):bj Tryz.prog 3 o 9 [ep p,iv .i64 (e:Nat),.one (.d (.fn 10))] (· = qn (if e≠0 then(([],0),e) else ed p)):=by
 have hI:=fun h=>Gu ho (hsz h)
 have hpV:ep p=.agg [.d (.sl (p.vars.map fun s=>[.str s])),.d (.sl (p.arrays.map arD)),.d (.sl (p.funcs.map fnD))]:=rfl
 rw[hpV] at hI ⊢
 refine ap 0 3 o ae mixed Tryz.func9 rfl b9 [.cell 6 35,.tmp 7] rfl c9 c9 (by simp[Tryz.ntmps9]) fun b₀ β0 s0 w0 g=>?_
 by_cases h:e=0
 ·subst h
  rw[if_neg a8]
  simp only[go_sem]
  refine mw ab (fun s β ds w h=>h.1.2) rfl (by simp only[go_sem];rfl) (by simp only[go_sem];exact hI rfl) (by simp only[go_sem];rfl) ?_
  rintro _ rfl
  unfold qn fj
  simp only[go_sem]
  exact⟨_,qw,rfl⟩
 ·rw[if_pos h]
  have hi:¬(e:Int)=0:=a7
  simp only[go_sem,hi]
  exact⟨_,lV,rfl⟩
theorem Gw{m:List Nat×Nat} (h1:m.1.length≤16384) (h2:m.2≤32768):bj Tryz.prog 3 o 11 [fj m,iv .i64 (e:Nat),.one (.d (.fn 12))] (· = .tup [sv (if e≠0 then [] else wI m),iv .i64 (e:Nat)]):=by
 have hP:=(Ij m h1 h2).toG (gb:=3) (o:=o)
 obtain⟨code,data⟩:=m
 have hmV:fj (code,data)=.agg [.d (dt code),.d (.int .i64 (data:Nat))]:=rfl
 rw[hmV] at hP ⊢
 refine ap 0 3 o ae mixed Tryz.func11 rfl b9 [.tmp 6,.tmp 7] rfl c9 c9 (by simp[Tryz.ntmps11]) fun b₀ β0 s0 w0 g=>?_
 by_cases h:e=0
 ·subst h
  rw[if_neg a8]
  simp only[go_sem]
  refine mw ab (fun s β ds w h=>h.1.2) rfl (by simp only[go_sem];rfl) (by simp only[go_sem];exact hP) (by simp only[go_sem];rfl) ?_
  rintro _ rfl
  simp only[go_sem]
  exact⟨_,De,rfl⟩
 ·rw[if_pos h]
  have hi:¬(e:Int)=0:=a7
  simp only[go_sem,hi]
  exact⟨_,De,rfl⟩
def eq (src:Asm.Str):Asm.Str×Nat×Nat:=
 let r:=jk src
 if r.2.2≠0 then([],r.2.1,r.2.2)
 else
  let m:=ed r.1
  if m.2≠0 then([],r.2.1,m.2) else(wI m.1,r.2.1,0)
def tE (r:Asm.Str×Nat×Nat):AV:=.tup [sv r.1,iv .i64 (r.2.1:Nat),iv .i64 (r.2.2:Nat)]
theorem my (ho:gv o) {src:Asm.Str} (hsz:szP (jk src).1≤2000):bj Tryz.prog 3 o 5 [sv src] (· = tE (eq src)):=by
 have hP:=Jv ho src
 unfold eq
 obtain⟨r,hr⟩:∃r,jk src=r:=⟨_,rfl⟩
 rw[hr] at hsz hP ⊢
 obtain⟨p,at',e⟩:=r
 simp only at hsz ⊢
 have hT:=Gv ho (p:=p) (e:=e) (fun _=>hsz)
 have hright:((if e≠0 then(([],0),e) else ed p):(List Nat×Nat)×Nat).1.1.length≤16384∧((if e≠0 then(([],0),e) else ed p):(List Nat×Nat)×Nat).1.2≤32768:=by
  split
  ·simp
  ·exact nS p
 obtain⟨z,hz⟩:∃z,(if e≠0 then([],at',e) else if (ed p).2≠0 then([],at',(ed p).2) else(wI (ed p).1,at',0):Asm.Str×Nat×Nat)=z:=⟨_,rfl⟩
 rw[hz]
 obtain⟨m,hm⟩:∃m,(if e≠0 then(([],0),e) else ed p:(List Nat×Nat)×Nat)=m:=⟨_,rfl⟩
 rw[hm] at hT hright
 have hI:=Gw (o:=o) (m:=m.1) (e:=m.2) hright.1 hright.2
 have hzm:z=((if m.2≠0 then [] else wI m.1),at',m.2):=by
  rw[←hz,←hm]
  by_cases h:e=0
  ·subst h
   simp only[ne_eq,Q3,A3]
   split
   ·rfl
   ·rename_i h2
    simp only[ne_eq,Classical.not_not] at h2
    rw[h2]
  ·simp[h]
 rw[hzm]
 obtain⟨⟨code,data⟩,em⟩:=m
 simp only at hI
 have hpV:ep p=.agg [.d (.sl (p.vars.map fun s=>[.str s])),.d (.sl (p.arrays.map arD)),.d (.sl (p.funcs.map fnD))]:=rfl
 have hmV:fj (code,data)=.agg [.d (dt code),.d (.int .i64 (data:Nat))]:=rfl
 unfold CC at hP
 unfold qn at hT
 simp only at hP hT
 rw[hpV] at hP hT
 rw[hmV] at hT hI
 refine ap 0 3 o ae mixed Tryz.func5 rfl b9 [.tmp 2,.tmp 3,.tmp 4] rfl c9 c9 (by simp[Tryz.ntmps5]) fun b₀ β0 s0 w0 g=>?_
 simp only[go_sem]
 refine aj ab (fun s β ds w h=>h.1.2) rfl (by simp only[go_sem];exact hP) (by simp only[go_sem];rfl) ?_
 rintro _ rfl
 simp only[go_sem]
 refine aj ab (fun s β ds w h=>h.1.2) rfl (by simp only[go_sem];exact hT) (by simp only[go_sem];rfl) ?_
 rintro _ rfl
 simp only[go_sem]
 refine aj ab (fun s β ds w h=>h.1.2) rfl (by simp only[go_sem];exact hI) (by simp only[go_sem];rfl) ?_
 rintro _ rfl
 unfold tE
 simp only[go_sem]
 exact⟨_,Gs,rfl⟩
end
end
section
attribute [local congr] Go.Am.ite_cc
open Go Go.Am Go.Asm
section
theorem Dg (src:Str):(eq src).1.length≤1000000:=by
 unfold eq
 simp only
 split
 ·simp
 ·split
  ·simp
  ·have:=(nS (jk src).1).1
   simp only[wI,j5,hZ,j7,j8]
   omega
def Told (r:AV):Prop:=∃(t:Str) (e:Nat),r=.tup [sv t,iv .i64 (e:Nat)]
variable {o:bF}
theorem Dh (hs:Al o) (hp:lW o) (ht:gv o) (src:Str) (hl:src.length≤1900):bj Tryz.prog 3 o 14 [sv src] Told:=by
 refine ap 0 3 o ae mixed Tryz.func14 rfl b9 [.tmp 2,.tmp 3] rfl c9 c9 (by simp[Tryz.ntmps14]) fun b₀ β0 s0 w0 g=>?_
 have hc:=Dg src
 simp only[go_sem]
 refine aj ab (fun s β ds w h=>h.1.2) rfl (by simp only[go_sem];exact my ht (nY hl)) (by simp only[go_sem];rfl) ?_
 rintro _ rfl
 obtain⟨⟨t,at',e⟩,hr⟩:∃r,eq src=r:=⟨_,rfl⟩
 rw[hr] at hc ⊢
 simp only at hc
 unfold tE
 by_cases he:e=0
 ·subst he
  simp only[go_sem]
  refine aj ab (fun s β ds w h=>h.1.2) rfl (by simp only[go_sem];exact Jo hs hp t hc) (by simp only[go_sem];rfl) ?_
  rintro _ ⟨u,rfl⟩
  simp only[go_sem]
  exact⟨_,⟨_,⟨_,_,rfl,dy _,_,_,rfl,dy _,rfl⟩,rfl⟩,u,0,rfl⟩
 ·have hei:¬(e:Int)=0:=a7
  simp only[go_sem,hei]
  exact⟨_,⟨_,⟨_,_,rfl,dy _,_,_,rfl,dy _,rfl⟩,rfl⟩,[],e,rfl⟩
theorem Gy (hs:Al o) (hp:lW o) (ht:gv o):bj Tryz.prog 3 o 13 [] Told:=by
 refine ap 0 3 o ae mixed Tryz.func13 rfl b9 [.tmp 0,.tmp 1] rfl c9 c9 (by simp[Tryz.ntmps13]) fun b₀ β0 s0 w0 g=>?_
 simp only[go_sem]
 refine aj ab (fun s β ds w h=>h.1.2) rfl (by simp only[go_sem];exact Dh hs hp ht _ c8) (by simp only[go_sem];rfl) ?_
 rintro _ ⟨t,e,rfl⟩
 simp only[go_sem]
 exact⟨_,⟨_,⟨_,_,rfl,dy _,_,_,rfl,dy _,rfl⟩,rfl⟩,t,e,rfl⟩
def Di (src:Str):Nat:=if (eq src).2.2≠0 then(eq src).2.2 else 12
theorem JZ (hs:Al o) (hp:lW o) (ht:gv o) (src:Str) (hl:src.length≤1900):bj Tryz.prog 3 o 6 [sv src,iv .i64 0] (· = .tup [.one (.d (.sl [])),iv .i64 (Di src:Nat)]):=by
 refine ap 0 3 o ae mixed Tryz.func6 rfl b9 [.tmp 4,.tmp 5] rfl c9 c9 (by simp[Tryz.ntmps6]) fun b₀ β0 s0 w0 g=>?_
 unfold Di
 simp only[go_sem]
 refine aj ab (fun s β ds w h=>h.1.2) rfl (by simp only[go_sem];exact my ht (nY hl)) (by simp only[go_sem];rfl) ?_
 rintro _ rfl
 obtain⟨⟨t,at',e⟩,hr⟩:∃r,eq src=r:=⟨_,rfl⟩
 rw[hr]
 unfold tE
 by_cases he:e=0
 case neg=>
  have hei:¬(e:Int)=0:=a7
  rw[if_pos he]
  simp only[go_sem,hei]
  exact⟨_,⟨_,⟨_,_,rfl,dy .nsl,_,_,rfl,dy _,rfl⟩,rfl⟩,rfl⟩
 subst he
 rw[if_neg a8]
 simp only[go_sem,ew,iK,tZ]
 refine aR ab rfl (by simp only[go_sem];exact Kl) (by simp only[go_sem];rfl) ?_
 rintro _ ⟨sd,rfl,hsd⟩
 simp only[go_sem]
 refine ak (fun _ st=>∃c1 c2,st.f 1=iv .i64 0∧st.f 10=.one (.osl 29 (st.gen 29) 1 0 1)∧st.obj 29=some [C.d (.str sd)]∧st.f 30=.one (.osl 27 (st.gen 27) 1 0 3)∧st.obj 27=some [C.d (.fn 13),c1,c2]∧st.f 31=iv .i64 3∧st.f 32=iv .i64 0) 0 ?_ ?_
 ·refine⟨.clo 15 [.ptr 6 (nxC 10 (g 6)) 0],.clo 17 [.ptr 2 (nxC 10 (g 2)) 0],?_⟩
  simp only[go_sem]
 rintro _ f g1 ob1 ⟨c1,c2,q1,q10,o29,q30,o27,q31,q32⟩
 simp only at q1 q10 o29 q30 o27 q31 q32
 simp only[go_sem,q1,q10,o29,q30,o27,q31,q32]
 refine mw ab (fun s β ds w h=>h.1.2) rfl (f:=13) (by simp only[go_sem]) (by simp only[go_sem];exact Gy hs hp ht) (by simp only[go_sem];rfl) ?_
 rintro _ ⟨u,e,rfl⟩
 by_cases he:e=0
 case neg=>
  have hei:¬(e:Int)=0:=a7
  simp only[go_sem,hei]
  exact⟨_,⟨_,⟨_,_,rfl,dy .nsl,_,_,rfl,dy _,rfl⟩,rfl⟩,rfl⟩
 subst he
 simp only[go_sem,q1,q10,o29]
 refine aR ab rfl (by simp only[go_sem];exact Fu sd u a7) (by simp only[go_sem];rfl) ?_
 rintro _ ⟨x,y,z,e,rfl,hxe⟩
 unfold GG
 by_cases he:e=0
 ·subst he
  have hxi:¬(x:Int)=1:=a7
  simp only[go_sem,hxi]
  exact⟨_,⟨_,⟨_,_,rfl,dy .nsl,_,_,rfl,dy _,rfl⟩,rfl⟩,rfl⟩
 ·have hei:¬(e:Int)=0:=a7
  simp only[go_sem,hei]
  exact⟨_,⟨_,⟨_,_,rfl,dy .nsl,_,_,rfl,dy _,rfl⟩,rfl⟩,rfl⟩
end
end
end Go.Proofs.YtlglgadejgdpcaaGreatDoor.Low
namespace Go.Proofs.YtlglgadejgdpcaaGreatDoor
section
attribute [local congr] Go.Am.ite_cc
open Go Go.Am Go.Asm
section
abbrev dec (n:Nat):Str:=Lib.decDigits n
variable {n:Nat}
theorem wC (h:¬n<10):dec n=dec (n/10)++[UInt8.ofNat (48+n%10)]:=by
 show Lib.decDigits n=_
 rw[Lib.decDigits,dif_neg h]
theorem jt (h:n<10):dec n=[UInt8.ofNat (48+n)]:=by
 show Lib.decDigits n=_
 rw[Lib.decDigits,dif_pos h]
theorem Du (n:Nat):dec n≠[]:=by
 by_cases h:n<10
 ·rw[jt h];simp
 ·rw[wC h];simp
theorem nW (h:n<18446744073709551616):(dec n).length≤20:=by
 show (Lib.decDigits n).length≤20
 rw[Lib.decDigits_length]
 by_cases h0:n=0
 ·subst h0;rw[Lib.nDigits_small a7];omega
 ·have:=Lib.numDigits_eq n a7 h
  split at this <;> omega
def jn:List Nat→Str
 |[]=>[]
 |x::r=>dec x++r.flatMap fun y=>32::dec y
theorem GL {l:List Nat} (h:l≠[]) (y:Nat):jn (l++[y])=(jn l++[32])++dec y:=by
 cases l with
 |nil=>exact absurd rfl h
 |cons x r=>simp only[jn,z6,K8,B4,O9,n0,s6];rfl
theorem Kj (y:Nat):jn [y]=dec y:=by simp[jn]
theorem Dv:∀{l:List Nat},(∀x∈l,x<18446744073709551616)→(jn l).length≤21*l.length:=by
 intro l h
 cases l with
 |nil=>simp[jn]
 |cons x r=>
   have h1:∀(r:List Nat),(∀x∈r,x<18446744073709551616)→(r.flatMap fun y=>32::dec y).length≤21*r.length:=by
    intro r
    induction r with
    |nil=>intro _;simp
    |cons y r ih=>
      intro h
      have h2:=nW (h y a8)
      have h3:=ih (fun x hx=>h x (by simp[hx]))
      simp only[B4,j5,j7] at h3 ⊢
      omega
   have h2:=nW (h x a8)
   have h3:=h1 r (fun x hx=>h x (by simp[hx]))
   simp only[jn,j5,j7] at h3 ⊢
   omega
def lX (l:List Nat):Str:=jn l++[10]
abbrev wD (l:List Nat):D:=.sl (l.map fun x=>[.int .i64 (x:Nat)])
theorem nX {o:bF} (ho:lW o) (l:List Nat) (hl:l.length≤1000) (hne:l≠[]) (hx:∀x∈l,x≤9223372036854775807):bj Tryz.prog 3 o 22 [.one (.d (wD l))] (· = sv (lX l)):=by
 refine ap 0 3 o ae mixed Tryz.func22 rfl b9 [.tmp 2] rfl c9 c9 (by simp[Tryz.ntmps22]) fun b₀ β0 s0 w0 g=>?_
 simp only[go_sem,j6]
 refine ak (fun n st=>∃k:Nat,n+k=l.length∧st.f 3=.one (.ptr 3 (nxC 59 (g 3)) 0)∧st.f 6=.one (.d (wD l))∧st.f 7=iv .i64 l.length∧st.f 8=iv .i64 k∧Bld 3 (100+14) (nxC 59 (g 3)) (jn (l.take k)) st.gen st.obj∧∀i,100≤i→i≠114→st.obj i=none) l.length ?_ ?_
 ·refine⟨0,rfl,?_⟩
  simp only[go_sem,H4]
  exact⟨⟨by simp[upd],by simp[fY],⟨_,.inl rfl,.inl ⟨rfl,by simp[upd],by simp[upd]⟩⟩,c8⟩,fun i hi h=>by (try simp only[upd]);rw[if_neg (by omega)]⟩
 rintro n f g1 ob1 ⟨k,hk,q3,q6,q7,q8,hB,hfree⟩
 simp only at q3 q6 q7 q8 hB hfree
 have hw:=am (k:=k) a7
 have hlk:(jn (l.take k)).length≤100000:=by
  have:=Dv (l:=l.take k) (fun x h=>by have:=hx x (J8 h);omega)
  rw[B9] at this
  omega
 by_cases hlt:k<l.length
 case neg=>
  have hki:¬(k:Int)<(l.length:Int):=a7
  obtain rfl:k=l.length:=a7
  rw[l6 (l4 _)] at hB hlk
  simp only[go_sem,q7,q8,hki,q3]
  refine bL ab rfl (by simp only[go_sem,q3];exact wB hB a7) ?_
  rintro _ g2 ob2 ⟨rfl,rfl,f2⟩
  simp only[go_sem]
  exact⟨a7,rfl⟩
 have hki:(k:Int)<(l.length:Int):=a7
 have hk0:(0:Int)≤(k:Int):=a7
 obtain⟨y,hy⟩:=getq hlt
 have hy2:(l.map fun x=>([.int .i64 (x:Nat)]:List D))[k]? = some [.int .i64 (y:Nat)]:=by rw[x7,hy];rfl
 have hyx:=hx y (l8 hy)
 have htk:l.take (k+1)=l.take k++[y]:=by rw[A7,hy];rfl
 have hdl:=nW (n:=y) a7
 by_cases h0:k=0
 ·subst h0
  rw[H4] at hB htk
  have hl0:(0:Int)<(l.length:Int):=a7
  simp only[go_sem,q3,q6,q7,q8,hl0,hy2,j6]
  refine aj ab (fun s β ds w h=>h.1.2) rfl (by simp only[go_sem];exact Dp ho y hyx) (by simp only[go_sem];rfl) ?_
  rintro _ rfl
  simp only[go_sem,q3]
  refine bL ab rfl (by simp only[go_sem,q3];exact ey (dec y) hB c8 (Du y) (by simp[jn]) a7 hfree) ?_
  rintro _ g2 ob2 ⟨rfl,hB2,_,_,hfree2⟩
  simp only[go_sem,q8,hw]
  refine ai (n-1) a7 ⟨1,a7,?_⟩
  simp only[go_sem,q3,q6,q7]
  rw[htk,x9,Kj]
  exact⟨c8,hB2,hfree2⟩
 ·have hkp:(0:Int)<(k:Int):=a7
  have hne2:l.take k≠[]:=by
   intro h
   have:=congrArg List.length h
   rw[B9,j8] at this
   omega
  simp only[go_sem,q3,q6,q7,q8,hki,hk0,hkp,hy2,j6]
  refine bL ab rfl (by simp only[go_sem,q3];exact ey [32] hB c8 c8 a7 c8 hfree) ?_
  rintro _ g2 ob2 ⟨rfl,hB2,_,_,hfree2⟩
  simp only[go_sem]
  refine aj ab (fun s β ds w h=>h.1.2) rfl (by simp only[go_sem];exact Dp ho y hyx) (by simp only[go_sem];rfl) ?_
  rintro _ rfl
  simp only[go_sem,q3]
  refine bL ab rfl (by simp only[go_sem,q3];exact ey (dec y) hB2 c8 (Du y) (by rw[j5,J4];omega) a7 hfree2) ?_
  rintro _ g3 ob3 ⟨rfl,hB3,_,_,hfree3⟩
  simp only[go_sem,q8,hw]
  refine ai (n-1) a7 ⟨k+1,a7,?_⟩
  simp only[go_sem,q3,q6,q7]
  rw[htk,GL hne2]
  exact⟨hB3,hfree3⟩
end
section
variable {l:List Nat}{g:Nat→Nat}
theorem wE {s:St}{id g n:Nat} (hg:s.gen id=g) (ho:s.obj id=some (l.map fun n=>C.d (.int .i64 (n:Nat)))) (hn:l.length=n):Frz s (.osl id g 1 0 n) (wD l):=by
 refine cZ hg l (fun n=>[.int .i64 (n:Nat)]) ho ?_ (fun a _ x hx=>?_) (fun a _=>rfl) hn
 ·clear ho hn;induction l with|nil=>rfl|cons a l ih=>simpa using ih
 ·simp at hx;subst hx;rfl
theorem Bld.put {b ib gb j:Nat}{bs:Str}{ob:Obs}{y:Option (List C)} (h:Bld b ib gb bs g ob) (h1:j≠b) (h2:j≠ib):Bld b ib gb bs g (upd ob j y):=by
 obtain⟨hg,hc,⟨a,ha,ho⟩,hn⟩:=h
 have e1:upd ob j y b=ob b:=by simp only[upd];rw[if_neg (y9 h1)]
 have e2:upd ob j y ib=ob ib:=by simp only[upd];rw[if_neg (y9 h2)]
 exact⟨hg,hc,⟨a,ha,by rw[e1,e2];exact ho⟩,hn⟩
theorem Bld.newG {b ib gb j x:Nat}{bs:Str}{ob:Obs} (h:Bld b ib gb bs g ob) (h1:j≠b) (h2:j≠ib):Bld b ib gb bs (upd g j x) ob:=by
 obtain⟨hg,hc,⟨a,ha,ho⟩,hn⟩:=h
 have e1:upd g j x b=g b:=by simp only[upd];rw[if_neg (y9 h1)]
 have e2:upd g j x ib=g ib:=by simp only[upd];rw[if_neg (y9 h2)]
 exact⟨e1.trans hg,hc,⟨a,ha,by rw[e2];exact ho⟩,hn⟩
def fT (w:Nat):Str:=if eG (w/16777216:Nat) (w/1048576%16:Nat) (w/65536%16:Nat) (w%65536:Nat)=true then lX [w/16777216,w/1048576%16,w/65536%16,w%65536] else [48,32]++dec w++[10]
def Ih (code:List Nat) (d:Nat):Str:=lX [code.length,d]++code.flatMap fT
def ko (code:List Nat) (d:Int):AV:=if GK code d=true then .tup [sv (Ih code d.toNat),iv .i64 0] else .tup [sv [],iv .i64 1]
theorem wF (h:∀x∈l,x<18446744073709551616):(lX l).length≤21*l.length+1:=by
 have:=Dv h
 unfold lX
 rw[j5,J4]
 omega
theorem GM (l:List Nat):lX l≠[]:=by unfold lX;simp
theorem tJ {w:Nat} (h:w<4294967296):(fT w).length≤100:=by
 unfold fT
 split
 ·have:=wF (l:=[w/16777216,w/1048576%16,w/65536%16,w%65536]) (by simp;omega)
  simp at this
  omega
 ·have:=nW (n:=w) a7
  simp only[j5,j7,j8]
  omega
theorem tK:∀{l:List Nat},(∀w∈l,w<4294967296)→(l.flatMap fT).length≤100*l.length
 |[],_=>by simp
 |w::l,h=>by
   have h1:=tJ (h w a8)
   have h2:=tK (l:=l) (fun x hx=>h x (by simp[hx]))
   simp only[B4,j5,j7]
   omega
theorem tL {o:bF} (ho:lW o) (code:List Nat) (d:Int) (hcw:∀w∈code,w<4294967296):bj Tryz.prog 3 o 7 [nq code d] (· = ko code d):=by
 refine ap 0 3 o ae mixed Tryz.func7 rfl b9 [.tmp 2,.tmp 3] rfl c9 c9 (by simp[Tryz.ntmps7]) fun b₀ β0 s0 w0 g=>?_
 have hR:=yj code d
 unfold ko
 cases hm:GK code d
 ·rw[hm] at hR
  unfold nq dt at hR ⊢
  simp only[go_sem]
  refine aR ab rfl (by simp only[go_sem];exact hR) (by simp only[go_sem];rfl) ?_
  rintro _ rfl
  simp only[go_sem]
  exact⟨_,⟨_,⟨_,_,rfl,dy _,_,_,rfl,dy _,rfl⟩,rfl⟩,rfl⟩
 rw[hm] at hR
 obtain⟨hl,hd0,hd1⟩:=G3 hm
 obtain⟨e,rfl⟩:∃e:Nat,d=e:=⟨d.toNat,a7⟩
 rw[A6]
 unfold nq dt at hR ⊢
 simp only[go_sem]
 refine aR ab rfl (by simp only[go_sem];exact hR) (by simp only[go_sem];rfl) ?_
 rintro _ rfl
 simp only[go_sem,j6]
 refine kE (xs:=[.one (.d (wD [code.length,e]))]) ab (fun s β ds w h=>h.1.2) rfl ?_ (nX ho [code.length,e] a8 a8 (by simp;omega)) (by rintro _ rfl;rfl) ?_
 ·simp only[go_sem]
  exact⟨_,_,rfl,⟨_,wE (l:=[code.length,e]) (by simp[upd]) (by simp[upd]) rfl,rfl⟩,rfl⟩
 rintro _ rfl
 have hn2:=wF (l:=[code.length,e]) (by simp;omega)
 simp only[j7,j8] at hn2
 simp only[go_sem]
 refine bL ab rfl (by simp only[go_sem];exact ey (B:=100) (bs:=[]) (lX [code.length,e]) ⟨by simp[upd],by simp[fY],⟨_,.inl rfl,.inl ⟨rfl,by simp[upd],by simp[upd]⟩⟩,c8⟩ c8 (GM _) a8 a7 (fun i hi h=>by simp only[upd];(repeat rw[if_neg (by omega)]))) ?_
 rintro _ g2 ob2 ⟨rfl,hB,eg,eo,hfree⟩
 have e1:=eg 1 c8
 have o1:=eo 1 c8 c8
 simp[upd] at e1 o1
 simp only[go_sem,e1,o1,j6]
 clear e1 o1 eg eo
 refine ak (fun n st=>∃k:Nat,n+k=code.length∧st.f 4=.one (.ptr 4 (nxC 59 (g 4)) 0)∧st.f 21=.one (.d (dt code))∧st.f 22=iv .i64 code.length∧st.f 23=iv .i64 k∧Bld 4 (100+14) (nxC 59 (g 4)) (lX [code.length,e]++(code.take k).flatMap fT) st.gen st.obj∧∀i,100≤i→i≠114→st.obj i=none) code.length ?_ ?_
 ·refine⟨0,rfl,?_⟩
  simp only[go_sem,H4,O9,n0]
  exact⟨rfl,hB,hfree⟩
 clear hB hfree g2 ob2
 rintro n f g2 ob2 ⟨k,hk,q4,q21,q22,q23,hB,hfree⟩
 simp only at q4 q21 q22 q23 hB hfree
 unfold dt at q21
 have hw:=am (k:=k) a7
 have hll:=tK (l:=code.take k) (fun w h=>hcw w (J8 h))
 rw[B9] at hll
 have hbl:(lX [code.length,e]++(code.take k).flatMap fT).length≤100000000:=by rw[j5];omega
 by_cases hlt:k<code.length
 case neg=>
  have hki:¬(k:Int)<(code.length:Int):=a7
  obtain rfl:k=code.length:=a7
  rw[l6 (l4 _)] at hB hbl
  simp only[go_sem,q22,q23,hki,q4]
  refine bL ab rfl (by simp only[go_sem,q4];exact wB hB a7) ?_
  rintro _ g3 ob3 ⟨rfl,rfl,f2⟩
  simp only[go_sem]
  exact⟨_,⟨_,⟨_,_,rfl,dy _,_,_,rfl,dy _,rfl⟩,rfl⟩,rfl⟩
 have hki:(k:Int)<(code.length:Int):=a7
 have hk0:(0:Int)≤(k:Int):=a7
 obtain⟨w,hcg⟩:=getq hlt
 have hc2:(code.map fun n=>([.int .u32 (n:Nat)]:List D))[k]? = some [.int .u32 (w:Nat)]:=by rw[x7,hcg];rfl
 have hww:=hcw w (l8 hcg)
 have htk:(code.take (k+1)).flatMap fT=(code.take k).flatMap fT++fT w:=by rw[A7,hcg,K8];simp
 rw[show k+1=k+1 from rfl] at htk
 simp only[go_sem,q4,q21,q22,q23,hki,hk0,hc2,j6]
 refine aR ab rfl (by simp only[go_sem];exact Dt w hww) (by simp only[go_sem];rfl) ?_
 rintro _ rfl
 have hlw:fT w=if eG (w/16777216:Nat) (w/1048576%16:Nat) (w/65536%16:Nat) (w%65536:Nat)=true then lX [w/16777216,w/1048576%16,w/65536%16,w%65536] else [48,32]++dec w++[10]:=rfl
 have hB':∀x y z,Bld 4 (100+14) (nxC 59 (g 4)) (lX [code.length,e]++(code.take k).flatMap fT) (upd g2 7 x) (upd (upd ob2 7 y) 7 z):=fun x y z=>((hB.newG c8 c8).put c8 c8).put c8 c8
 have hfree':∀y z i,100≤i→i≠114→upd (upd ob2 7 y) 7 z i=none:=fun y z i hi h=>by simp only[upd];(repeat rw[if_neg (by omega)]);exact hfree i hi h
 have hlwl:=tJ hww
 have hlne:fT w≠[]:=by unfold fT;split <;> simp[lX]
 unfold Ki
 cases hR:eG (w/16777216:Nat) (w/1048576%16:Nat) (w/65536%16:Nat) (w%65536:Nat)
 ·rw[hR,if_neg c8] at hlw
  unfold nN
  have hdl:(Lib.decDigits w).length≤20:=nW (n:=w) a7
  simp only[go_sem,q4]
  refine aj ab (fun s β ds w h=>h.1.2) rfl (by simp only[go_sem];exact Kd ho w hww) (by simp only[go_sem];rfl) ?_
  rintro _ rfl
  simp only[go_sem,q4]
  refine⟨a7,a7,?_⟩
  rw[show (48::32::(Lib.decDigits w++[10]):Str)=fT w from hlw.symm]
  refine bL ab rfl (by simp only[go_sem,q4];exact ey (fT w) (hB' _ _ _) c8 hlne a7 a7 (hfree' _ _)) ?_
  rintro _ g3 ob3 ⟨rfl,hB3,_,_,hfree3⟩
  simp only[go_sem,q23,hw]
  refine ai (n-1) a7 ⟨k+1,a7,?_⟩
  simp only[go_sem,q4,q21,q22]
  rw[htk,←s6]
  exact⟨rfl,hB3,hfree3⟩
 ·rw[hR,if_pos rfl] at hlw
  unfold nN
  simp only[go_sem,q4]
  refine kE (xs:=[.one (.d (wD [w/16777216,w/1048576%16,w/65536%16,w%65536]))]) ab (fun s β ds w h=>h.1.2) rfl ?_ (nX ho [w/16777216,w/1048576%16,w/65536%16,w%65536] a8 a8 (by simp;omega)) (by rintro _ rfl;rfl) ?_
  ·simp only[go_sem]
   exact⟨_,_,rfl,⟨_,wE (l:=[w/16777216,w/1048576%16,w/65536%16,w%65536]) (by simp[upd]) (by simp[upd]) rfl,rfl⟩,rfl⟩
  rintro _ rfl
  rw[←hlw]
  simp only[go_sem,q4]
  refine bL ab rfl (by simp only[go_sem,q4];exact ey (fT w) (((hB' _ _ _).newG c8 c8).put (j:=47) c8 c8) c8 hlne a7 a7 (fun i hi h=>by simp only[upd];rw[if_neg a7];exact hfree' _ _ i hi h)) ?_
  rintro _ g3 ob3 ⟨rfl,hB3,_,_,hfree3⟩
  simp only[go_sem,q23,hw]
  refine ai (n-1) a7 ⟨k+1,a7,?_⟩
  simp only[go_sem,q4,q21,q22]
  rw[htk,←s6]
  exact⟨rfl,hB3,hfree3⟩
end
end
end Go.Proofs.YtlglgadejgdpcaaGreatDoor
namespace Go.Proofs.YtlglgadejgdpcaaGreatDoor.Low
section
attribute [local congr] Go.Am.ite_cc
open Go Go.Am Go.Asm
def rx:Str:=[102,117,110,99,32,109,97,105,110,40,41,32,123,32,112,117,116,40,54,53,41,32,125]
theorem Gz:eq rx=([],22,3):=by
 have h:(jk rx).2=(22,3):=j0
 unfold eq
 simp only
 rw[show (jk rx).2.2=3 by rw[h],show (jk rx).2.1=22 by rw[h],if_pos c8]
theorem Ka {o:bF} (ht:gv o) (src:Str) (n:Int) (hl:src.length≤1900) {t:Str}{at' e:Nat} (hr:eq src=(t,at',e)) (he:e≠0):bj Tryz.prog 3 o 6 [sv src,iv .i64 n] (· = .tup [.one (.d (.sl [])),iv .i64 e]):=by
 refine ap 0 3 o ae mixed Tryz.func6 rfl b9 [.tmp 4,.tmp 5] rfl c9 c9 (by simp[Tryz.ntmps6]) fun b₀ β0 s0 w0 g=>?_
 simp only[go_sem]
 refine aj ab (fun s β ds w h=>h.1.2) rfl (by simp only[go_sem];exact my ht (nY hl)) (by simp only[go_sem];rfl) ?_
 rintro _ rfl
 rw[hr]
 unfold tE
 have hei:¬(e:Int)=0:=a7
 simp only[go_sem,hei]
 exact⟨_,⟨_,⟨_,_,rfl,dy .nsl,_,_,rfl,dy _,rfl⟩,rfl⟩,rfl⟩
theorem Dj (a b:Nat):lX [a,b]=dec a++[32]++dec b++[10]:=by simp[lX,jn]
theorem AH (a b c d:Nat):lX [a,b,c,d]=dec a++[32]++dec b++[32]++dec c++[32]++dec d++[10]:=by simp[lX,jn]
theorem zt {s:St}{c1 c2:C}{x1 x2:D} (h1:Frz s c1 x1) (h2:Frz s c2 x2):kc s (.agg [c1,c2]) (.agg [.d x1,.d x2]):=
 ⟨[x1,x2],rfl,fun i c hc=>by match i,hc with|0,hc=>cases hc;exact⟨_,rfl,h1⟩|1,hc=>cases hc;exact⟨_,rfl,h2⟩,rfl⟩
theorem Dk:ko [436207616,5] 3=.tup [sv [50,32,51,10,50,54,32,48,32,48,32,48,10,48,32,53,10],iv .i64 0]:=by
 have d2:dec 2=[50]:=jt c8
 have d3:dec 3=[51]:=jt c8
 have d0:dec 0=[48]:=jt c8
 have d5:dec 5=[53]:=jt c8
 have d26:dec 26=[50,54]:=by rw[wC c8,show 26/10=2 by decide,d2];rfl
 have h1:fT 436207616=[50,54,32,48,32,48,32,48,10]:=by
  unfold fT
  rw[if_pos c8,show 436207616/16777216=26 by decide,show 436207616/1048576%16=0 by decide,AH,d26,d0];rfl
 have h2:fT 5=[48,32,53,10]:=by
  unfold fT
  rw[if_neg c8,d5];rfl
 unfold ko
 rw[if_pos c8]
 unfold Ih
 rw[show [436207616,5].length=2 from rfl,show (3:Int).toNat=3 from rfl,Dj,d2,d3,B4,B4,O9,h1,h2]
 rfl
theorem Dl:ko [] (-1)=.tup [sv [],iv .i64 1]:=by
 unfold ko
 rw[if_neg c8]
theorem GA {o:bF} (hp:lW o) (ht:gv o):bj Tryz.prog 3 o 4 [] (· = bv true):=by
 refine ap 0 3 o ae mixed Tryz.func4 rfl b9 [.tmp 0] rfl c9 c9 (by simp[Tryz.ntmps4]) fun b₀ β0 s0 w0 g=>?_
 simp only[go_sem]
 refine kE (xs:=[nq [436207616,5] 3]) ab (fun s β ds w h=>h.1.2) rfl ?_ (tL hp [436207616,5] 3 a8) (by rintro _ rfl;rw[Dk];rfl) ?_
 ·simp only[go_sem]
  exact⟨_,_,rfl,zt (lL (code:=[436207616,5]) (by simp[upd]) (by simp[upd]) rfl) (.d _),rfl⟩
 rintro _ rfl
 rw[Dk]
 simp only[go_sem]
 refine kE (xs:=[nq [] (-1)]) ab (fun s β ds w h=>h.1.2) rfl ?_ (tL hp [] (-1) a8) (by rintro _ rfl;rw[Dl];rfl) ?_
 ·simp only[go_sem]
  exact⟨_,_,rfl,zt (.d .nsl) (.d _),rfl⟩
 rintro _ rfl
 rw[Dl]
 simp only[go_sem]
 refine aj ab (fun s β ds w h=>h.1.2) rfl (by simp only[go_sem];exact Ka ht rx 100 c8 Gz c8) (by simp only[go_sem];rfl) ?_
 rintro _ rfl
 simp only[go_sem]
theorem HG {o:bF} (hs:Al o) (hp:lW o) (ht:gv o) (src:Str):bj Tryz.prog 3 o 3 [sv src] (· = bv true):=by
 refine ap 0 3 o ae mixed Tryz.func3 rfl b9 [.tmp 2] rfl c9 c9 (by simp[Tryz.ntmps3]) fun b₀ β0 s0 w0 g=>?_
 simp only[go_sem]
 refine aj ab (fun s β ds w h=>h.1.2) rfl (by simp only[go_sem];exact GA hp ht) (by simp only[go_sem];rfl) ?_
 rintro _ rfl
 by_cases hl:300<src.length
 ·have hli:(300:Int)<(src.length:Int):=a7
  simp only[go_sem,hli]
 have hli:¬(300:Int)<(src.length:Int):=a7
 simp only[go_sem,hli]
 refine aj ab (fun s β ds w h=>h.1.2) rfl (by simp only[go_sem];exact my ht (nY (src:=src) a7)) (by simp only[go_sem];rfl) ?_
 rintro _ rfl
 obtain⟨⟨t,at',e⟩,hr⟩:∃r,eq src=r:=⟨_,rfl⟩
 have hG:=JZ hs hp ht src a7
 unfold Di at hG
 rw[hr] at hG ⊢
 unfold tE
 simp only[go_sem]
 refine aj ab (fun s β ds w h=>h.1.2) rfl (by simp only[go_sem];exact hG) (by simp only[go_sem];rfl) ?_
 rintro _ rfl
 by_cases he:e=0
 ·subst he
  simp only[go_sem]
 ·have hei:¬(e:Int)=0:=a7
  rw[if_pos he]
  simp only[go_sem,hei]
end
end Go.Proofs.YtlglgadejgdpcaaGreatDoor.Low
namespace Go.Am
section
section
section
variable {P:Program}{t:TypeId}{ds:List D}
end
end
end
end Go.Am
namespace Go.Proofs.YtlglgadejgdpcaaGreatDoor
section
open Go Go.Am Go.ChangeShapes Go.WideShapes Go.ChangeAt Go.RowKit Go.Lib
section
theorem own:ownKnob Tryz.prog.godebug=none:=c9
theorem laidOut:laidOutB Tryz.prog=true:=c9
def pR:List (String×DataW Unit):=[("math/bits.deBruijn32tab",Rows.laid_math_bits_deBruijn32tab),("math/bits.deBruijn64tab",Rows.laid_math_bits_deBruijn64tab),("internal/strconv.uint64pow10",Rows.laid_internal_strconv_uint64pow10),("seedcorn/hex.small",Rows.laid_seedcorn_hex_small),("seedcorn/token.words",Rows.laid_seedcorn_token_words),("seedcorn/token.signs",Rows.laid_seedcorn_token_signs)]
theorem BN:reachBytes=140737488351232:=c9
theorem u9:Tryz.prog.underlying 9=some .string:=c9
theorem u4:Tryz.prog.underlying 4=some .bool:=c9
theorem u32:Tryz.prog.underlying 32=some (.int .u32):=c9
theorem u97:Tryz.prog.underlying 97=some (.int .u64):=c9
def MO:Option TypeDesc→Option (List TypeId)
 |some (.struct fs)=>some (fs.toList.map (·.type))
 |_=>none
def tys:List TypeId:=[3,32,33,35]
variable {P:Program}
theorem mL {H:Type}{enc:TypeId×Value→H}{w:World}{base:Nat}{sp:Nat→Bool}{held:Bool}{fuel:Nat}{t e:TypeId}{n:Nat}{cs:List Value}{zs:List (List UInt8)}{p:List MemPlace}
  (ht:P.underlying t=some (.array n e)) (he:P.underlying e=some .string) (hce:P.cellsOf e=1) (hct:P.cellsOf t=n)
  (h:DataW.trod enc P w base sp held fuel t cs=some (DataW.agg (zs.map fun z=>.lit (.string z)),p)):∀(i:Nat) z,zs[i]? = some z→cs[i]? = some (.string ⟨z.toArray⟩):=by
 cases fuel with
 |zero=>simp[DataW.trod] at h
 |succ fuel=>
   simp only[DataW.trod,ht,hce,hct,P0] at h
   split at h
   ·obtain⟨xs,hm,hx⟩:=H6.1 h
    have hxs:xs.map (·.1)=zs.map fun z=>(DataW.lit (.string z):DataW H):=by
     have:=congrArg Prod.fst hx
     simpa using this
    have hxl:xs.length=n:=by simpa using mapM_length hm
    have hzl:zs.length=n:=by
     have:=congrArg List.length hxs
     simp at this
     omega
    intro i z hz
    have hi:i<n:=by
     have:=(l5.1 hz).1
     omega
    obtain⟨b,hb,hf⟩:=mapM_at hm i i (by simp[hi])
    obtain⟨s,hc,rfl,_⟩:=DataW.trod_string he hf
    have h1:cs[i]? = some (.string s):=by
     have:=congrArg (·[0]?) hc
     simpa[G0,G1] using this
    have h2:(xs.map (·.1))[i]? = some (DataW.lit (.string s.data.toList):DataW H):=by simp[hb]
    rw[hxs,x7,hz] at h2
    have h3:z=s.data.toList:=by simpa using h2
    rw[h1,h3]
   ·cases h
theorem BO {W w:World}{n:String}{g:Nat} (hn:P.globalNamed n=some g) (he:w.heap[g]? = W.heap[g]?):w.var? P n=W.var? P n:=by
 unfold World.var?
 rw[hn]
 show (match w.heap[g]? with|some (.cells cs _ _)=>some cs|_=>none)=(match W.heap[g]? with|some (.cells cs _ _)=>some cs|_=>none)
 rw[he]
def BP:List Int:=[48,49,50,51,52,53,54,55,56,57,97,98,99,100,101,102]
theorem Fd:∀i:Fin 16,BP[i.1]? = some (((UInt8.ofNat (BP.getD i.1 0).toNat).toNat:Nat):Int):=c8
theorem Ac {W:World} (h:laidMetH Tryz.prog pR W):∃o,nf 3 o W∧Al o∧lW o∧gv o:=by
 rw[MakeChecks.laidMetH_plain _ _ _ c9] at h
 have hpow:TabIs Tryz.prog W "internal/strconv.uint64pow10" .u64 pow10Tab:=by
  obtain⟨g,t,cs,fuel,p,hg,hty,hvar,hd⟩:=laidMet.reads h (n:= "internal/strconv.uint64pow10") (d:=Rows.laid_internal_strconv_uint64pow10) (by simp[pR])
  obtain rfl:=C3 ((show Tryz.prog.globalNamed "internal/strconv.uint64pow10" = some 2 by kernel_rfl).symm.trans hg)
  obtain rfl:=C3 ((show (Tryz.prog.globals[2]?).map (·.type)=some 258 by kernel_rfl).symm.trans hty)
  have hcs:=cells_of_tab (H:=Unit) (k:=.u64) (zs:=pow10Tab) (show Tryz.prog.underlying 258=some (.array 20 97) by kernel_rfl) u97 c9 c9 hd
  unfold TabIs
  rw[hvar,←hcs]
 have hwordsT:∀(i:Nat) z,Src.DE[i]? = some z→W.cell? ⟨3,i,none⟩=some (.string ⟨z.toArray⟩):=by
  obtain⟨g,t,cs,fuel,p,hg,hty,hvar,hd⟩:=laidMet.reads h (n:= "seedcorn/token.words") (d:=Rows.laid_seedcorn_token_words) (by simp[pR])
  obtain rfl:=C3 ((show Tryz.prog.globalNamed "seedcorn/token.words" = some 3 by kernel_rfl).symm.trans hg)
  obtain rfl:=C3 ((show (Tryz.prog.globals[3]?).map (·.type)=some 263 by kernel_rfl).symm.trans hty)
  intro i z hz
  have hc:=mL (H:=Unit) (zs:=Src.DE) (show Tryz.prog.underlying 263=some (.array 10 9) by kernel_rfl) u9 c9 c9 hd i z hz
  rw[World.var?_cell hg hvar i,←F2]
  exact hc
 have hsignsT:∀(i:Nat) z,Src.Kn[i]? = some z→W.cell? ⟨1,i,none⟩=some (.string ⟨z.toArray⟩):=by
  obtain⟨g,t,cs,fuel,p,hg,hty,hvar,hd⟩:=laidMet.reads h (n:= "seedcorn/token.signs") (d:=Rows.laid_seedcorn_token_signs) (by simp[pR])
  obtain rfl:=C3 ((show Tryz.prog.globalNamed "seedcorn/token.signs" = some 1 by kernel_rfl).symm.trans hg)
  obtain rfl:=C3 ((show (Tryz.prog.globals[1]?).map (·.type)=some 211 by kernel_rfl).symm.trans hty)
  intro i z hz
  have hc:=mL (H:=Unit) (zs:=Src.Kn) (show Tryz.prog.underlying 211=some (.array 24 9) by kernel_rfl) u9 c9 c9 hd i z hz
  rw[World.var?_cell hg hvar i,←F2]
  exact hc
 have h0:=hwordsT 0 _ rfl
 have hlt:3<W.heap.size:=by
  refine Nat.lt_of_not_le fun hle=>?_
  simp[World.cell?,H7 hle] at h0
 have hsmall:∀i:Nat,i<16→W.cell? ⟨0,i,none⟩=some (.int .u8 ((UInt8.ofNat (BP.getD i 0).toNat).toNat:Int)):=by
  obtain⟨g,t,cs,fuel,p,hg,hty,hvar,hd⟩:=laidMet.reads h (n:= "seedcorn/hex.small") (d:=Rows.laid_seedcorn_hex_small) (by simp[pR])
  obtain rfl:=C3 ((show Tryz.prog.globalNamed "seedcorn/hex.small" = some 0 by kernel_rfl).symm.trans hg)
  obtain rfl:=C3 ((show (Tryz.prog.globals[0]?).map (·.type)=some 147 by kernel_rfl).symm.trans hty)
  have hcs:=cells_of_tab (H:=Unit) (k:=.u8) (zs:=BP) (show Tryz.prog.underlying 147=some (.array 16 5) by kernel_rfl) (show Tryz.prog.underlying 5=some (.int .u8) by kernel_rfl) c9 c9 hd
  intro i hi
  rw[World.var?_cell hg hvar i,←F2,hcs,x7,Fd ⟨i,hi⟩]
  rfl
 refine⟨fun b=>W.heap[b]?,⟨hlt,fun _ _=>rfl⟩,⟨fun i=>UInt8.ofNat (BP.getD i 0).toNat,fun w hw i hi=>?_⟩,fun w hw=>?_,fun w hw=>⟨fun i t ht=>?_,fun i t ht=>?_⟩⟩
 ·rw[←hsmall i hi]
  unfold World.cell?
  rw[show w.heap[0]? = W.heap[0]? from hw.2 0 c8]
 ·unfold TabIs
  rw[BO (show Tryz.prog.globalNamed "internal/strconv.uint64pow10" = some 2 by kernel_rfl) (hw.2 2 c8)]
  exact hpow
 ·rw[←hwordsT i t ht]
  unfold World.cell?
  rw[show w.heap[3]? = W.heap[3]? from hw.2 3 c8]
 ·rw[←hsignsT i t ht]
  unfold World.cell?
  rw[show w.heap[1]? = W.heap[1]? from hw.2 1 c8]
end
end
section
open Go Go.Am
def PJ:List FuncId:=[3,4,7,20,22,21,40,68,41,69,100,101,102,157,156,158,103,104,159,160,181,182,25,23,42,70,71,72,24,43,73,6,5,8,27,28,47,78,48,49,79,46,50,51,80,112,161,162,183,185,184,193,163,164,26,44,74,105,75,76,77,106,107,108,109,111,110,113,45,29,52,53,81,54,82,114,83,115,9,10,30,55,84,116,165,117,166,119,120,118,167,168,85,121,169,170,175,186,171,172,173,122,174,123,56,57,86,87,31,32,34,61,92,149,177,178,187,150,179,188,93,33,58,88,124,125,126,127,176,128,59,89,129,130,90,131,132,133,134,135,136,137,138,139,140,141,142,143,144,145,146,147,91,148,60,11,12,35,15,16,37,64,96,63,95,17,13,14,36,62,94,151,18,38,65,19,39,67,66,97,98,152,153,154,155,180,189,190,194,191,192,195,196,197,99]
theorem clo:Tryz.prog.closure 3=PJ:=c9
theorem BQ:Tryz.prog.unfollowed 3=true:=by
 unfold Program.unfollowed
 rw[clo]
 kernel_rfl
theorem MP:Tryz.prog.recurses 3=true:=by
 unfold Program.recurses
 rw[BQ]
 rfl
theorem MQ:(Rows.chainErrsRow.inPlace==Tryz.prog.inPlace 3)=true:=by
 unfold Program.inPlace
 rw[clo]
 kernel_rfl
theorem MR:(Rows.chainErrsRow.named==Tryz.prog.varsNamed 3)=true:=by
 unfold Program.varsNamed
 rw[clo]
 kernel_rfl
theorem IY:Tryz.prog.goes 3=false:=by
 unfold Program.goes
 rw[clo,BQ]
 kernel_rfl
theorem Fe:joinedFacts Tryz.prog 3 Tryz.f3 Rows.chainErrsSpec Rows.chainErrsRow=true:=by
 unfold joinedFacts
 rw[MQ,MR,BQ,MP]
 kernel_rfl
theorem BR:false=Rows.chainErrsRow.goesBy Tryz.prog:=by
 unfold OpenClaim.goesBy Program.goesAt Program.goesFrom
 rw[show Tryz.prog.funcNamed Rows.chainErrsRow.func=some 3 by kernel_rfl]
 simp only[Option.any_some,IY,N3]
 rfl
end
end Go.Proofs.YtlglgadejgdpcaaGreatDoor

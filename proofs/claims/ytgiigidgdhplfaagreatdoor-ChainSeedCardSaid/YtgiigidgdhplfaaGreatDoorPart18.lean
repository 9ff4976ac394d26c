/- A part of the proof; no conditions. -/
import Derived.Test.YtgiigidgdhplfaaGreatDoorPart17
import Derived.Shelf.Strings.OnBuilder
import Derived.Test.YtgiigidgdhplfaaGreatDoorProg
import Derived.Laws.AppendOwn
set_option linter.unusedSimpArgs false
set_option linter.unusedVariables false
set_option maxHeartbeats 64000000
set_option maxRecDepth 100000
namespace Go.Proofs.YtgiigidgdhplfaaGreatDoor.Low
section
open Go Go.Am Go.Lower
open Go.Emit (Wr aj ao am pj eu ip eM)
open Go.Src (al cC)
section
def ed (p:Src.Prog):Emit.Plan:=Emit.vj (al p).words (al p).funcs
variable {p:Src.Prog}
theorem vx{N:Nat} (h:szP p≤N):p.funcs.length≤N∧(p.funcs.map fun f=>Src.bu f.body).sum≤N∧∀f∈p.funcs,f.params.length≤N∧f.params.length+f.locals.length≤N:=by
 have h2:=qg p.funcs
 refine⟨by unfold szP at h;omega,by unfold szP at h;omega,fun f hf=>?_⟩
 have:=mO hf
 omega
theorem Uh (h:cC p=0) (hsz:szP p≤2000) (hw:(al p).words≤32768) (hd:(ed p).data≤32768):Rx (al p).words (al p).funcs (ed p):=by
 obtain⟨hr,_,_⟩:=Src.xD h
 have hl:1≤p.funcs.length∧p.funcs.length≤64:=by unfold Src.dS at hr;simp at hr;exact hr.1.1
 obtain⟨_,hsum,hps⟩:=vx hsz
 have H:Emit.DG (al p).funcs (ed p) 2000:=Emit.Un h fun f hf=>(hps f hf).1
 have hfl:=Emit.yH p
 have htot:Emit.po (al p).funcs 2000 (al p).funcs.length≤48574000:=A9 (Emit.PU hl.2 hsum) a8
 have hdp:∀ds∈(ed p).depths,∃x∈(al p).funcs,ds=Emit.kv (Emit.gQ x):=fun ds hds=>by
  obtain⟨k,hk⟩:=C9 hds
  obtain⟨x,h1,h2⟩:=Emit.LC hk
  exact⟨x,l6 h1,h2⟩
 have hcd:∀x∈(al p).funcs,(Emit.gQ x).length≤12128:=fun x hx=>by
  exact Wi
 have hgo:=Emit.BF (al p).funcs.length (ed p).depths 0 (al p).words (fun o _=>Emit.yG o 0)
 have hw0:0≤(al p).words:=by
  have h1:=Emit.Lz h
  have h2:(Src.aP p).2≤(al p).words:=Src.uD _ _ _
  omega
 have hdata:(ed p).data=(Emit.gu (al p).funcs.length 0 (ed p).depths (al p).words).2.2:=rfl
 have hbase:(ed p).base=(Emit.gu (al p).funcs.length 0 (ed p).depths (al p).words).2.1:=rfl
 have hback:(ed p).back=(Emit.gu (al p).funcs.length 0 (ed p).depths (al p).words).1:=rfl
 have hlen:=Emit.rH (al p).funcs.length (ed p).depths 0 (al p).words
 have hok:∀x∈(al p).funcs,∀y∈Emit.gQ x,AH (al p).funcs y.1:=fun x hx y hy=>by
  obtain⟨h1,h2,_⟩:=Emit.DH h hx hy
  exact⟨h1,h2⟩
 have hF:∀(d:ip) (f N:Nat),d.code.length≤N→d.holes.length≤N→N+Emit.szF (al p).funcs 2000 f≤100000000→uh (al p).funcs (ed p) d f:=fun d f N hc hh hN=>by
  refine⟨fun x hx=>hok x (l6 hx),fun x ds hx hds=>?_,fun x hx=>?_,fun x ds hx hds j hj=>?_,fun x ds hx hds j hj=>?_⟩
  ·obtain⟨x',h1,h2⟩:=Emit.LC hds
   rw[hx] at h1
   cases h1
   rw[h2]
   exact(Emit.Oq h (l6 hx)).1
  ·have:=hcd x (l6 hx)
   unfold Emit.gQ at this
   omega
  ·have:=(H.fits hx ds j d.code.length).1
   have hsz:Emit.szF (al p).funcs 2000 f=7+(Emit.gQ x).length*(2*2000+5):=by unfold Emit.szF;rw[hx]
   have hm:j*(2*2000+5)≤(Emit.gQ x).length*(2*2000+5):=M0 _ hj
   unfold Emit.gQ at this hsz hm
   omega
  ·have hq:=(H.fits hx ds j d.code.length).2.1
   have hsz:Emit.szF (al p).funcs 2000 f=7+(Emit.gQ x).length*(2*2000+5):=by unfold Emit.szF;rw[hx]
   have hm:j≤(Emit.gQ x).length*(2*2000+5):=by
    have:j≤(Emit.gQ x).length:=hj
    omega
   unfold Emit.gQ at hsz hm hq
   omega
 have hU:=fun k hk=>Emit.Hx H k hk
 have hlast:=fun k (hk:k≤(al p).funcs.length-1)=>Emit.Oo (al p).funcs 2000 (k:=k) a6 hk
 have hW:=hU ((al p).funcs.length-1) (l0 _)
 have hWl:=hlast ((al p).funcs.length-1) (l0 _)
 refine⟨a6,by simp[ed,Emit.vj],?_,?_,a6,fun x hx=>?_,fun ds hds d hd=>?_,fun x hx=>?_,fun x hx=>?_,?_,?_,fun j hj=>?_,?_,?_,fun q hq=>?_⟩
 ·rw[hback,hlen.1];simp[ed,Emit.vj]
 ·rw[hbase,hlen.2];simp[ed,Emit.vj]
 ·rw[hbase] at hx
  have:=hgo.2 x hx
  omega
 ·obtain⟨x,hx,rfl⟩:=hdp ds hds
  have:=(Emit.Oq h hx).2 d hd
  have:=hcd x hx
  omega
 ·obtain⟨f,w,h1,h2,rfl,h4⟩:=Emit.LA hx
  have:=hps f h1
  have:=Emit.Lz h
  simp only[Src.mF]
  omega
 ·obtain⟨f,w,h1,h2,rfl,h4⟩:=Emit.LA hx
  have:=hps f h1
  simp only[Src.mF]
  omega
 ·rw[hdata];omega
 ·refine hF _ _ 1 a7 a7 ?_
  have:=hlast 0 (K9 _)
  omega
 ·refine hF _ _ _ (hU j a6).c (hU j a6).hl ?_
  have h1:=hlast (j+1) a6
  rw[Emit.po] at h1
  omega
 ·exact A9 hW.c a6
 ·exact A9 hW.hl a6
 ·obtain⟨a1,a2,⟨a3,a4⟩,a5⟩:=hW.h q hq
  refine⟨⟨a1,a2⟩,⟨a3,a4⟩,fun h0=>?_⟩
  obtain⟨x,e1,e2⟩:=a5 h0
  have hfx:=(l4.1 e1).1
  obtain⟨x',l,e3,e4,e5⟩:=hW.p q.2.1.toNat a6
  rw[e1] at e3
  cases e3
  exact⟨l,e4,a6⟩
theorem Mz {o:bE} (h:cC p=0) (hsz:szP p≤2000) (hw:(al p).words≤32768):bi Tryz.prog 3 o 40 [gy (al p).words (al p).funcs] (· = uj (al p).funcs (ed p)):=by
 obtain⟨hr,_,_⟩:=Src.xD h
 have hl:1≤p.funcs.length∧p.funcs.length≤64:=by unfold Src.dS at hr;simp at hr;exact hr.1.1
 obtain⟨_,hsum,hps⟩:=vx hsz
 have hfl:=Emit.yH p
 have hw0:0≤(al p).words:=by
  have h1:=Emit.Lz h
  have h2:(Src.aP p).2≤(al p).words:=Src.uD _ _ _
  omega
 have hcd:∀x∈(al p).funcs,(Emit.gQ x).length≤12128:=fun x hx=>by
  exact Wi
 refine Ug (fun hd=>Uh h hsz hw hd) ?_
 refine Mm (ed p).depths (by simp[ed,Emit.vj]) ⟨hw0,a6⟩ a6 (fun ds hds=>?_) (fun f ds hd=>?_)
 ·obtain⟨k,hk⟩:=C9 hds
  obtain⟨x,h1,rfl⟩:=Emit.LC hk
  have hx:=l6 h1
  have:=hcd x hx
  obtain⟨e1,e2⟩:=Emit.Oq h hx
  exact⟨fun d hd=>by have:=e2 d hd;omega,a6⟩
 ·obtain⟨x,h1,rfl⟩:=Emit.LC hd
  have hx:=l6 h1
  have:=hcd x hx
  obtain⟨h0,hg⟩:=Emit.tX h hx
  have hsig:Iw (al p).funcs=Src.sigs p.funcs:=Emit.LB p
  refine(EO (w:=(al p).words) h1 (cd:=Emit.gQ x) rfl a6 (fun _=>rfl) h0 (by rw[hsig];exact hg)).mono ?_
  rintro r ⟨_,rfl⟩
  rfl
end
end
end Go.Proofs.YtgiigidgdhplfaaGreatDoor.Low
namespace Go.Am
section
attribute [local congr] Go.Am.ite_cc
section
section
variable {P:Program}{T:Nat→TI}{b₀:Bs}{rd:Option Nat}{gb:Nat}{o:bE}{Ψ:fj}{B0:Nat}
theorem pC {Φ:St→Loc→List Deferred→World→Prop} (hΦ:aQ b₀ Φ) (hG:∀s β ds w,Φ s β ds w→nV b₀ gb o w) {op:Oper}{s:St}{K:St→Prop}{k:Box K}{t:Nat}{args:Array Operand}{tys:Array TypeId} (ho:op.op=.call ⟨.value (.tmp t),args,tys⟩) {f:FuncId} (hf:s.f t=.one (.d (.fn f))) {R:AV→Prop}
  (hp:bi P gb o f (args.toList.map s.ev) R) (hd:(args.toList.map s.ev).all dO=true) (hk:∀r,R r→K (s.put op.dst r)):aR (spF P rd b₀ Φ B0 Ψ) op s k:=by
 refine⟨fun s'=>∃r,R r∧s'=s.put op.dst r,?_,fun _ ⟨r,hr,e⟩=>e▸hk r hr⟩
 intro N β a ds w hr hφ hdst next Q hn _
 have hnd:aE op=true:=by simp[aE,ho]
 refine eS hnd ?_
 have hv:=hr.f t
 rw[hf] at hv
 simp only[ag,aq] at hv
 have hv:a.tmps.getD t undef=.func (.func f) #[] #[]:=by generalize a.tmps.getD t undef=v at hv;cases hv;rfl
 have hrun:(execOp a.eval op).run P w=.ok (.enter f (args.map a.eval)) w:=by
  exact VE
 unfold Oper.wp
 rw[hrun]
 simp only[Oper.upon]
 exact Vf
end
end
end
end Go.Am
namespace Go.Proofs.YtgiigidgdhplfaaGreatDoor.Low
section
attribute [local congr] Go.Am.ite_cc
open Go Go.Am Go.Lower
open Go.Emit (Wr aj ao am pj eu ip eM)
open Go.Src (al gY cC)
section
def qi (fs:List Src.CFn) (P:Emit.Plan):(List Nat×Nat)×Nat:=
 if 32768<P.data then(([],0),2)
 else
  let c:=Emit.filled (Emit.whole fs P)
  if 16384<c.length then(([],0),2) else if c.all rY then((c.map kz,P.data.toNat),0) else(([],0),2)
def qC (r:(List Nat×Nat)×Nat):AV:=.tup [eY r.1,iv .i64 (r.2:Nat)]
theorem EW {fs:List Src.CFn}{P:Emit.Plan} (h:0≤P.data):uj fs P=qC (qi fs P):=by
 unfold uj qi
 split
 ·rfl
 ·simp only
  split
  ·rfl
  ·split
   ·unfold qC nH eY
    simp only
    rw[Int.toNat_of_nonneg h]
    rfl
   ·rfl
theorem xh (fs:List Src.CFn) (P:Emit.Plan):(qi fs P).1.1.length≤16384∧(qi fs P).1.2≤32768:=by
 unfold qi
 split
 ·simp
 ·simp only
  split
  ·simp
  ·split
   ·simp only[j5];omega
   ·simp
def ey (p:Src.Prog):(List Nat×Nat)×Nat:=if (gY p).2≠0 then(([],0),(gY p).2) else qi (al p).funcs (ed p)
theorem vG (p:Src.Prog):(ey p).1.1.length≤16384∧(ey p).1.2≤32768:=by
 unfold ey
 split
 ·simp
 ·exact xh _ _
variable {o:bE}{p:Src.Prog}{s:St}{e:Nat}{t:Asm.Str}
theorem EX (h:(gY p).2=0):cC p=0∧(al p).words≤32768∧(gY p).1=al p:=by
 unfold gY at h ⊢
 by_cases h1:cC p=0
 ·rw[if_neg (by simp[h1])] at h ⊢
  by_cases h2:32768<(al p).words
  ·rw[if_pos h2] at h;cases h
  ·rw[if_neg h2];exact⟨h1,a6,rfl⟩
 ·rw[if_pos h1] at h;exact absurd h h1
theorem qP{code:List Nat}{d e:Int}:nc s [.agg [.d (dq code),.d (.int .i64 d)],iv .i64 e] (.tup [.agg [.d (dq code),.d (.int .i64 d)],iv .i64 e]):=by
 refine⟨_,⟨.agg [.d (dq code),.d (.int .i64 d)],_,rfl,⟨[dq code,.int .i64 d],rfl,fun i c hc'=>?_,rfl⟩,_,_,rfl,⟨_,.d _,rfl⟩,rfl⟩,rfl⟩
 match i,hc' with
 |0,hc'=>cases hc';exact⟨_,rfl,.d _⟩
 |1,hc'=>cases hc';exact⟨_,rfl,.d _⟩
theorem EY{n:Int}:nc s [sv t,iv .i64 n] (.tup [sv t,iv .i64 n]):=⟨_,⟨_,_,rfl,⟨_,.d _,rfl⟩,_,_,rfl,⟨_,.d _,rfl⟩,rfl⟩,rfl⟩
theorem IG{n m:Int}:nc s [sv t,iv .i64 n,iv .i64 m] (.tup [sv t,iv .i64 n,iv .i64 m]):=⟨_,⟨_,_,rfl,⟨_,.d _,rfl⟩,_,_,rfl,⟨_,.d _,rfl⟩,_,_,rfl,⟨_,.d _,rfl⟩,rfl⟩,rfl⟩
theorem EZ (h:(gY p).2=0) (hsz:szP p≤2000):bi Tryz.prog 3 o 39 [nj (gY p).1] (· = qC (ey p)):=by
 obtain⟨h1,h2,h3⟩:=EX h
 have hd:0≤(ed p).data:=by
  have hgo:=Emit.BF (al p).funcs.length (ed p).depths 0 (al p).words (fun o _=>Emit.yG o 0)
  have hg:=Emit.Lz h1
  have hc:(Src.aP p).2≤(al p).words:=Src.uD _ _ _
  have:(ed p).data=(Emit.gu (al p).funcs.length 0 (ed p).depths (al p).words).2.2:=rfl
  omega
 have hE:=Mz (o:=o) h1 hsz h2
 rw[EW hd] at hE
 have hL:=Iv h1 (by omega:szP p≤1000000)
 have hI:ey p=qi (al p).funcs (ed p):=if_neg (by simp[h])
 rw[h3,hI]
 obtain⟨r,hr⟩:∃r,qi (al p).funcs (ed p)=r:=⟨_,rfl⟩
 rw[hr] at hE ⊢
 obtain⟨⟨code,data⟩,e⟩:=r
 have hcV:nj (al p)=.agg [.d (.int .i64 (al p).words),.d (.sl ((al p).funcs.map cfD))]:=rfl
 rw[hcV] at hL ⊢
 refine hdG Tryz.func39 rfl [.cell 2 38,.tmp 3] fun b₀ β0 s0 w0 g=>?_
 simp only[go_sem]
 refine kS ay rfl Zc c9 ?_
 rintro _ rfl
 simp only[go_sem,gy]
 refine il ay (fun s β ds w h=>h.1.2) rfl (by simp only[go_sem];exact hE) c9 ?_
 exact Wt
theorem IH{c:Src.Core}{r:(List Nat×Nat)×Nat} (he:e=0→bi Tryz.prog 3 o 39 [nj c] (· = qC r)):bi Tryz.prog 3 o 38 [nj c,iv .i64 (e:Nat),.one (.d (.fn 39))] (· = qC (if e≠0 then(([],0),e) else r)):=by
 have hcV:nj c=.agg [.d (.int .i64 c.words),.d (.sl (c.funcs.map cfD))]:=rfl
 rw[hcV] at he ⊢
 refine hdG Tryz.func38 rfl [.cell 6 38,.tmp 7] fun b₀ β0 s0 w0 g=>?_
 by_cases h:e=0
 ·subst h
  rw[if_neg a7]
  simp only[go_sem]
  refine pC ay (fun s β ds w h=>h.1.2) rfl XX (by simp only[go_sem];exact he rfl) XX ?_
  exact Wt
 ·exact XF
theorem II (ho:gK o) (hsz:szP p≤2000):bi Tryz.prog 3 o 14 [eF p] (· = qC (ey p)):=by
 have hC:=Ma ho p a6
 have hT:=IH (o:=o) (c:=(gY p).1) (e:=(gY p).2) (r:=ey p) (fun he=>EZ he hsz)
 have hI:(if (gY p).2≠0 then(([],0),(gY p).2) else ey p)=ey p:=by
  unfold ey
  split <;> rfl
 rw[hI] at hT
 obtain⟨r,hr⟩:∃r,ey p=r:=⟨_,rfl⟩
 rw[hr] at hT ⊢
 obtain⟨⟨code,data⟩,e⟩:=r
 obtain⟨c,hc⟩:∃c,gY p=c:=⟨_,rfl⟩
 rw[hc] at hC hT
 obtain⟨c,ec⟩:=c
 have hcV:nj c=.agg [.d (.int .i64 c.words),.d (.sl (c.funcs.map cfD))]:=rfl
 simp only at hC hT
 rw[hcV] at hC hT
 have hpV:eF p=.agg [.d (.sl (p.vars.map fun s=>[.str s])),.d (.sl (p.arrays.map arD)),.d (.sl (p.funcs.map fnD))]:=rfl
 rw[hpV] at hC ⊢
 refine hdG Tryz.func14 rfl [.cell 2 38,.tmp 3] fun b₀ β0 s0 w0 g=>?_
 simp only[go_sem]
 refine cp rfl Y8 ?_
 rintro _ rfl
 simp only[go_sem]
 refine cp rfl Zb ?_
 exact Wt
theorem IJ (ho:gK o) (hsz:e=0→szP p≤2000):bi Tryz.prog 3 o 13 [eF p,iv .i64 (e:Nat),.one (.d (.fn 14))] (· = qC (if e≠0 then(([],0),e) else ey p)):=by
 have hI:=fun h=>II ho (hsz h)
 have hpV:eF p=.agg [.d (.sl (p.vars.map fun s=>[.str s])),.d (.sl (p.arrays.map arD)),.d (.sl (p.funcs.map fnD))]:=rfl
 rw[hpV] at hI ⊢
 refine hdG Tryz.func13 rfl [.cell 6 38,.tmp 7] fun b₀ β0 s0 w0 g=>?_
 by_cases h:e=0
 ·subst h
  rw[if_neg a7]
  simp only[go_sem]
  refine pC ay (fun s β ds w h=>h.1.2) rfl XX (by simp only[go_sem];exact hI rfl) XX ?_
  exact Wt
 ·exact XF
theorem IK{m:List Nat×Nat} (h1:m.1.length≤16384) (h2:m.2≤32768):bi Tryz.prog 3 o 15 [eY m,iv .i64 (e:Nat),.one (.d (.fn 16))] (· = .tup [sv (if e≠0 then [] else su m),iv .i64 (e:Nat)]):=by
 have hP:=(KH m h1 h2).toG (gb:=3) (o:=o)
 obtain⟨code,data⟩:=m
 have hmV:eY (code,data)=.agg [.d (dq code),.d (.int .i64 (data:Nat))]:=rfl
 rw[hmV] at hP ⊢
 refine hdG Tryz.func15 rfl [.tmp 6,.tmp 7] fun b₀ β0 s0 w0 g=>?_
 by_cases h:e=0
 ·subst h
  rw[if_neg a7]
  simp only[go_sem]
  refine pC ay (fun s β ds w h=>h.1.2) rfl XX YM XX ?_
  rintro _ rfl
  simp only[go_sem]
  exact⟨_,EY,rfl⟩
 ·rw[if_pos h]
  have hi:¬(e:Int)=0:=a6
  simp only[go_sem,hi]
  exact⟨_,EY,rfl⟩
def iI (src:Asm.Str):Asm.Str×Nat×Nat:=
 let r:=jV src
 if r.2.2≠0 then([],r.2.1,r.2.2)
 else
  let m:=ey r.1
  if m.2≠0 then([],r.2.1,m.2) else(su m.1,r.2.1,0)
def AJ (r:Asm.Str×Nat×Nat):AV:=.tup [sv r.1,iv .i64 (r.2.1:Nat),iv .i64 (r.2.2:Nat)]
theorem pD (ho:gK o) {src:Asm.Str} (hsz:szP (jV src).1≤2000):bi Tryz.prog 3 o 5 [sv src] (· = AJ (iI src)):=by
 have hP:=LV ho src
 unfold iI
 obtain⟨r,hr⟩:∃r,jV src=r:=⟨_,rfl⟩
 rw[hr] at hsz hP ⊢
 obtain⟨p,at',e⟩:=r
 simp only at hsz ⊢
 have hT:=IJ ho (p:=p) (e:=e) (fun _=>hsz)
 have hright:((if e≠0 then(([],0),e) else ey p):(List Nat×Nat)×Nat).1.1.length≤16384∧((if e≠0 then(([],0),e) else ey p):(List Nat×Nat)×Nat).1.2≤32768:=by
  split
  ·simp
  ·exact vG p
 obtain⟨z,hz⟩:∃z,(if e≠0 then([],at',e) else if (ey p).2≠0 then([],at',(ey p).2) else(su (ey p).1,at',0):Asm.Str×Nat×Nat)=z:=⟨_,rfl⟩
 rw[hz]
 obtain⟨m,hm⟩:∃m,(if e≠0 then(([],0),e) else ey p:(List Nat×Nat)×Nat)=m:=⟨_,rfl⟩
 rw[hm] at hT hright
 have hI:=IK (o:=o) (m:=m.1) (e:=m.2) hright.1 hright.2
 have hzm:z=((if m.2≠0 then [] else su m.1),at',m.2):=by
  rw[←hz,←hm]
  by_cases h:e=0
  ·subst h
   simp only[ne_eq,P7,A4]
   split
   ·rfl
   ·rename_i h2
    simp only[ne_eq,Classical.not_not] at h2
    rw[h2]
  ·simp[h]
 rw[hzm]
 obtain⟨⟨code,data⟩,em⟩:=m
 simp only at hI
 have hpV:eF p=.agg [.d (.sl (p.vars.map fun s=>[.str s])),.d (.sl (p.arrays.map arD)),.d (.sl (p.funcs.map fnD))]:=rfl
 have hmV:eY (code,data)=.agg [.d (dq code),.d (.int .i64 (data:Nat))]:=rfl
 unfold Eu at hP
 unfold qC at hT
 simp only at hP hT
 rw[hpV] at hP hT
 rw[hmV] at hT hI
 refine hdG Tryz.func5 rfl [.tmp 2,.tmp 3,.tmp 4] fun b₀ β0 s0 w0 g=>?_
 simp only[go_sem]
 refine cp rfl YM ?_
 rintro _ rfl
 simp only[go_sem]
 refine cp rfl Zb ?_
 rintro _ rfl
 simp only[go_sem]
 refine cp rfl (by simp only[go_sem];exact hI) ?_
 rintro _ rfl
 unfold AJ
 simp only[go_sem]
 exact⟨_,IG,rfl⟩
end
end
end Go.Proofs.YtgiigidgdhplfaaGreatDoor.Low
namespace Go.Proofs.YtgiigidgdhplfaaGreatDoor
section
attribute [local congr] Go.Am.ite_cc
open Go Go.Am Go.Asm
section
abbrev dec (n:Nat):Str:=Lib.decDigits n
variable {n:Nat}
theorem xp (h:¬n<10):dec n=dec (n/10)++[UInt8.ofNat (48+n%10)]:=by
 show Lib.decDigits n=_
 rw[Lib.decDigits,dif_neg h]
theorem jC (h:n<10):dec n=[UInt8.ofNat (48+n)]:=by
 show Lib.decDigits n=_
 rw[Lib.decDigits,dif_pos h]
theorem Fp (n:Nat):dec n≠[]:=by
 by_cases h:n<10
 ·rw[jC h];simp
 ·rw[xp h];simp
theorem oJ (h:n<18446744073709551616):(dec n).length≤20:=by
 show (Lib.decDigits n).length≤20
 rw[Lib.decDigits_length]
 by_cases h0:n=0
 ·subst h0;rw[Lib.nDigits_small a6];omega
 ·have:=Lib.numDigits_eq n a6 h
  split at this <;> omega
def jn:List Nat→Str
 |[]=>[]
 |x::r=>dec x++r.flatMap fun y=>32::dec y
theorem IV {l:List Nat} (h:l≠[]) (y:Nat):jn (l++[y])=(jn l++[32])++dec y:=by
 cases l with
 |nil=>exact absurd rfl h
 |cons x r=>simp only[jn,z8,J8,B4,Q5,l8,r0];rfl
theorem MP (y:Nat):jn [y]=dec y:=by simp[jn]
theorem Fq:∀{l:List Nat},(∀x∈l,x<18446744073709551616)→(jn l).length≤21*l.length:=by
 intro l h
 cases l with
 |nil=>simp[jn]
 |cons x r=>
   have h1:∀(r:List Nat),(∀x∈r,x<18446744073709551616)→(r.flatMap fun y=>32::dec y).length≤21*r.length:=by
    intro r
    induction r with
    |nil=>intro _;simp
    |cons y r ih=>
      intro h
      have h2:=oJ (h y a7)
      have h3:=ih (fun x hx=>h x YZ)
      simp only[B4,j4,j6] at h3 ⊢
      omega
   have h2:=oJ (h x a7)
   have h3:=h1 r (fun x hx=>h x YZ)
   simp only[jn,j4,j6] at h3 ⊢
   omega
def my (l:List Nat):Str:=jn l++[10]
abbrev xq (l:List Nat):D:=.sl (l.map fun x=>[.int .i64 (x:Nat)])
theorem oK {o:bE} (ho:oI o) (l:List Nat) (hl:l.length≤1000) (hne:l≠[]) (hx:∀x∈l,x≤9223372036854775807):bi Tryz.prog 3 o 23 [.one (.d (xq l))] (· = sv (my l)):=by
 refine hdG Tryz.func23 rfl [.tmp 2] fun b₀ β0 s0 w0 g=>?_
 simp only[go_sem,j5]
 refine ai (fun n st=>∃k:Nat,n+k=l.length∧st.f 3=.one (.ptr 3 (nxC 63 (g 3)) 0)∧st.f 6=.one (.d (xq l))∧st.f 7=iv .i64 l.length∧st.f 8=iv .i64 k∧Bld 3 (100+14) (nxC 63 (g 3)) (jn (l.take k)) st.gen st.obj∧∀i,100≤i→i≠114→st.obj i=none) l.length ?_ ?_
 ·refine⟨0,rfl,?_⟩
  simp only[go_sem,I3]
  exact⟨⟨by simp[upd],by simp[ge],⟨_,.inl rfl,.inl ⟨rfl,by simp[upd],by simp[upd]⟩⟩,a8⟩,fun i hi h=>by (try simp only[upd]);rw[if_neg (by omega)]⟩
 rintro n f g1 ob1 ⟨k,hk,q3,q6,q7,q8,hB,hfree⟩
 simp only at q3 q6 q7 q8 hB hfree
 have hw:=ah (k:=k) a6
 have hlk:(jn (l.take k)).length≤100000:=by
  have:=Fq (l:=l.take k) (fun x h=>by have:=hx x (M1 h);omega)
  rw[A8] at this
  omega
 by_cases hlt:k<l.length
 case neg=>
  have hki:¬(k:Int)<(l.length:Int):=a6
  obtain rfl:k=l.length:=a6
  rw[l5 (l0 _)] at hB hlk
  simp only[go_sem,q7,q8,hki,q3]
  refine ba ay rfl (by simp only[go_sem,q3];exact xo hB a6) ?_
  rintro _ g2 ob2 ⟨rfl,rfl,f2⟩
  simp only[go_sem]
  exact⟨a6,rfl⟩
 have hki:(k:Int)<(l.length:Int):=a6
 have hk0:(0:Int)≤(k:Int):=a6
 obtain⟨y,hy⟩:=getq hlt
 have hy2:(l.map fun x=>([.int .i64 (x:Nat)]:List D))[k]? = some [.int .i64 (y:Nat)]:=by rw[w8,hy];rfl
 have hyx:=hx y (l6 hy)
 have htk:l.take (k+1)=l.take k++[y]:=by rw[A2,hy];rfl
 have hdl:=oJ (n:=y) a6
 by_cases h0:k=0
 ·subst h0
  rw[I3] at hB htk
  have hl0:(0:Int)<(l.length:Int):=a6
  simp only[go_sem,q3,q6,q7,q8,hl0,hy2,j5]
  refine cp rfl (by simp only[go_sem];exact Fj ho y hyx) ?_
  rintro _ rfl
  simp only[go_sem,q3]
  refine ba ay rfl (by simp only[go_sem,q3];exact eI (dec y) hB a8 (Fp y) (by simp[jn]) a6 hfree) ?_
  rintro _ g2 ob2 ⟨rfl,hB2,_,_,hfree2⟩
  simp only[go_sem,q8,hw]
  refine ae (n-1) a6 ⟨1,a6,?_⟩
  simp only[go_sem,q3,q6,q7]
  rw[htk,y1,MP]
  exact⟨a8,hB2,hfree2⟩
 ·have hkp:(0:Int)<(k:Int):=a6
  have hne2:l.take k≠[]:=by
   intro h
   have:=congrArg List.length h
   rw[A8,j7] at this
   omega
  simp only[go_sem,q3,q6,q7,q8,hki,hk0,hkp,hy2,j5]
  refine ba ay rfl (by simp only[go_sem,q3];exact eI [32] hB a8 a8 a6 a8 hfree) ?_
  rintro _ g2 ob2 ⟨rfl,hB2,_,_,hfree2⟩
  simp only[go_sem]
  refine cp rfl (by simp only[go_sem];exact Fj ho y hyx) ?_
  rintro _ rfl
  simp only[go_sem,q3]
  refine ba ay rfl (by simp only[go_sem,q3];exact eI (dec y) hB2 a8 (Fp y) (by rw[j4,J0];omega) a6 hfree2) ?_
  rintro _ g3 ob3 ⟨rfl,hB3,_,_,hfree3⟩
  simp only[go_sem,q8,hw]
  refine ae (n-1) a6 ⟨k+1,a6,?_⟩
  simp only[go_sem,q3,q6,q7]
  rw[htk,IV hne2]
  exact⟨hB3,hfree3⟩
end
section
variable {l:List Nat}{g:Nat→Nat}
theorem xr {s:St}{id g n:Nat} (hg:s.gen id=g) (ho:s.obj id=some (l.map fun n=>C.d (.int .i64 (n:Nat)))) (hn:l.length=n):Frz s (.osl id g 1 0 n) (xq l):=by
 refine cL hg l (fun n=>[.int .i64 (n:Nat)]) ho ?_ (fun a _ x hx=>?_) (fun a _=>rfl) hn
 ·clear ho hn;induction l with|nil=>rfl|cons a l ih=>simpa using ih
 ·simp at hx;subst hx;rfl
theorem Bld.put {b ib gb j:Nat}{bs:Str}{ob:Obs}{y:Option (List C)} (h:Bld b ib gb bs g ob) (h1:j≠b) (h2:j≠ib):Bld b ib gb bs g (upd ob j y):=by
 obtain⟨hg,hc,⟨a,ha,ho⟩,hn⟩:=h
 have e1:upd ob j y b=ob b:=by simp only[upd];rw[if_neg (z7 h1)]
 have e2:upd ob j y ib=ob ib:=by simp only[upd];rw[if_neg (z7 h2)]
 exact⟨hg,hc,⟨a,ha,by rw[e1,e2];exact ho⟩,hn⟩
theorem Bld.newG {b ib gb j x:Nat}{bs:Str}{ob:Obs} (h:Bld b ib gb bs g ob) (h1:j≠b) (h2:j≠ib):Bld b ib gb bs (upd g j x) ob:=by
 obtain⟨hg,hc,⟨a,ha,ho⟩,hn⟩:=h
 have e1:upd g j x b=g b:=by simp only[upd];rw[if_neg (z7 h1)]
 have e2:upd g j x ib=g ib:=by simp only[upd];rw[if_neg (z7 h2)]
 exact⟨e1.trans hg,hc,⟨a,ha,by rw[e2];exact ho⟩,hn⟩
def fV (w:Nat):Str:=if cj (w/16777216:Nat) (w/1048576%16:Nat) (w/65536%16:Nat) (w%65536:Nat)=true then my [w/16777216,w/1048576%16,w/65536%16,w%65536] else [48,32]++dec w++[10]
def KC (code:List Nat) (d:Nat):Str:=my [code.length,d]++code.flatMap fV
def kC (code:List Nat) (d:Int):AV:=if IU code d=true then .tup [sv (KC code d.toNat),iv .i64 0] else .tup [sv [],iv .i64 1]
theorem xt (h:∀x∈l,x<18446744073709551616):(my l).length≤21*l.length+1:=by
 have:=Fq h
 unfold my
 rw[j4,J0]
 omega
theorem IW (l:List Nat):my l≠[]:=by unfold my;simp
theorem un {w:Nat} (h:w<4294967296):(fV w).length≤100:=by
 unfold fV
 split
 ·have:=xt (l:=[w/16777216,w/1048576%16,w/65536%16,w%65536]) XQ
  simp at this
  omega
 ·have:=oJ (n:=w) a6
  simp only[j4,j6,j7]
  omega
theorem uq:∀{l:List Nat},(∀w∈l,w<4294967296)→(l.flatMap fV).length≤100*l.length
 |[],_=>by simp
 |w::l,h=>by
   have h1:=un (h w a7)
   have h2:=uq (l:=l) (fun x hx=>h x YZ)
   simp only[B4,j4,j6]
   omega
theorem ur {o:bE} (ho:oI o) (code:List Nat) (d:Int) (hcw:∀w∈code,w<4294967296):bi Tryz.prog 3 o 10 [nH code d] (· = kC code d):=by
 refine hdG Tryz.func10 rfl [.tmp 2,.tmp 3] fun b₀ β0 s0 w0 g=>?_
 have hR:=zf code d
 unfold kC
 cases hm:IU code d
 ·rw[hm] at hR
  unfold nH dq at hR ⊢
  simp only[go_sem]
  refine iE rfl YA ?_
  rintro _ rfl
  exact XI
 rw[hm] at hR
 obtain⟨hl,hd0,hd1⟩:=N2 hm
 obtain⟨e,rfl⟩:∃e:Nat,d=e:=⟨d.toNat,a6⟩
 rw[A6]
 unfold nH dq at hR ⊢
 simp only[go_sem]
 refine iE rfl YA ?_
 rintro _ rfl
 simp only[go_sem,j5]
 refine kU (xs:=[.one (.d (xq [code.length,e]))]) ay (fun s β ds w h=>h.1.2) rfl ?_ (oK ho [code.length,e] a7 a7 XQ) Zd ?_
 ·simp only[go_sem]
  exact⟨_,_,rfl,⟨_,xr (l:=[code.length,e]) XR XR rfl,rfl⟩,rfl⟩
 rintro _ rfl
 have hn2:=xt (l:=[code.length,e]) XQ
 simp only[j6,j7] at hn2
 simp only[go_sem]
 refine ba ay rfl (by simp only[go_sem];exact eI (B:=100) (bs:=[]) (my [code.length,e]) ⟨by simp[upd],by simp[ge],⟨_,.inl rfl,.inl ⟨rfl,by simp[upd],by simp[upd]⟩⟩,a8⟩ a8 (IW _) a7 a6 (fun i hi h=>by simp only[upd];(repeat rw[if_neg (by omega)]))) ?_
 rintro _ g2 ob2 ⟨rfl,hB,eg,eo,hfree⟩
 have e1:=eg 1 a8
 have o1:=eo 1 a8 a8
 simp[upd] at e1 o1
 simp only[go_sem,e1,o1,j5]
 clear e1 o1 eg eo
 refine ai (fun n st=>∃k:Nat,n+k=code.length∧st.f 4=.one (.ptr 4 (nxC 63 (g 4)) 0)∧st.f 21=.one (.d (dq code))∧st.f 22=iv .i64 code.length∧st.f 23=iv .i64 k∧Bld 4 (100+14) (nxC 63 (g 4)) (my [code.length,e]++(code.take k).flatMap fV) st.gen st.obj∧∀i,100≤i→i≠114→st.obj i=none) code.length ?_ ?_
 ·refine⟨0,rfl,?_⟩
  simp only[go_sem,I3,Q5,l8]
  exact⟨rfl,hB,hfree⟩
 clear hB hfree g2 ob2
 rintro n f g2 ob2 ⟨k,hk,q4,q21,q22,q23,hB,hfree⟩
 simp only at q4 q21 q22 q23 hB hfree
 unfold dq at q21
 have hw:=ah (k:=k) a6
 have hll:=uq (l:=code.take k) (fun w h=>hcw w (M1 h))
 rw[A8] at hll
 have hbl:(my [code.length,e]++(code.take k).flatMap fV).length≤100000000:=by rw[j4];omega
 by_cases hlt:k<code.length
 case neg=>
  have hki:¬(k:Int)<(code.length:Int):=a6
  obtain rfl:k=code.length:=a6
  rw[l5 (l0 _)] at hB hbl
  simp only[go_sem,q22,q23,hki,q4]
  refine ba ay rfl (by simp only[go_sem,q4];exact xo hB a6) ?_
  rintro _ g3 ob3 ⟨rfl,rfl,f2⟩
  exact XI
 have hki:(k:Int)<(code.length:Int):=a6
 have hk0:(0:Int)≤(k:Int):=a6
 obtain⟨w,hcg⟩:=getq hlt
 have hc2:(code.map fun n=>([.int .u32 (n:Nat)]:List D))[k]? = some [.int .u32 (w:Nat)]:=by rw[w8,hcg];rfl
 have hww:=hcw w (l6 hcg)
 have htk:(code.take (k+1)).flatMap fV=(code.take k).flatMap fV++fV w:=by rw[A2,hcg,J8];simp
 rw[show k+1=k+1 from rfl] at htk
 simp only[go_sem,q4,q21,q22,q23,hki,hk0,hc2,j5]
 refine iE rfl (by simp only[go_sem];exact Fo w hww) ?_
 rintro _ rfl
 have hlw:fV w=if cj (w/16777216:Nat) (w/1048576%16:Nat) (w/65536%16:Nat) (w%65536:Nat)=true then my [w/16777216,w/1048576%16,w/65536%16,w%65536] else [48,32]++dec w++[10]:=rfl
 have hB':∀x y z,Bld 4 (100+14) (nxC 63 (g 4)) (my [code.length,e]++(code.take k).flatMap fV) (upd g2 7 x) (upd (upd ob2 7 y) 7 z):=fun x y z=>((hB.newG a8 a8).put a8 a8).put a8 a8
 have hfree':∀y z i,100≤i→i≠114→upd (upd ob2 7 y) 7 z i=none:=fun y z i hi h=>by simp only[upd];(repeat rw[if_neg (by omega)]);exact hfree i hi h
 have hlwl:=un hww
 have hlne:fV w≠[]:=by unfold fV;split <;> simp[my]
 unfold MO
 cases hR:cj (w/16777216:Nat) (w/1048576%16:Nat) (w/65536%16:Nat) (w%65536:Nat)
 ·rw[hR,if_neg a8] at hlw
  unfold ju
  have hdl:(Lib.decDigits w).length≤20:=oJ (n:=w) a6
  simp only[go_sem,q4]
  refine cp rfl (by simp only[go_sem];exact MJ ho w hww) ?_
  rintro _ rfl
  simp only[go_sem,q4]
  refine⟨a6,a6,?_⟩
  rw[show (48::32::(Lib.decDigits w++[10]):Str)=fV w from hlw.symm]
  refine ba ay rfl (by simp only[go_sem,q4];exact eI (fV w) (hB' _ _ _) a8 hlne a6 a6 (hfree' _ _)) ?_
  exact Wu
 ·rw[hR,if_pos rfl] at hlw
  unfold ju
  simp only[go_sem,q4]
  refine kU (xs:=[.one (.d (xq [w/16777216,w/1048576%16,w/65536%16,w%65536]))]) ay (fun s β ds w h=>h.1.2) rfl ?_ (oK ho [w/16777216,w/1048576%16,w/65536%16,w%65536] a7 a7 XQ) Zd ?_
  ·simp only[go_sem]
   exact⟨_,_,rfl,⟨_,xr (l:=[w/16777216,w/1048576%16,w/65536%16,w%65536]) XR XR rfl,rfl⟩,rfl⟩
  rintro _ rfl
  rw[←hlw]
  simp only[go_sem,q4]
  refine ba ay rfl (by simp only[go_sem,q4];exact eI (fV w) (((hB' _ _ _).newG a8 a8).put (j:=47) a8 a8) a8 hlne a6 a6 (fun i hi h=>by simp only[upd];rw[if_neg a6];exact hfree' _ _ i hi h)) ?_
  exact Wu
end
end
end Go.Proofs.YtgiigidgdhplfaaGreatDoor
namespace Go.Proofs.YtgiigidgdhplfaaGreatDoor.Low
section
attribute [local congr] Go.Am.ite_cc
open Go Go.Am Go.Asm
def sd:Str:=[102,117,110,99,32,109,97,105,110,40,41,32,123,32,112,117,116,40,54,53,41,32,125]
theorem IM:iI sd=([],22,3):=by
 have h:(jV sd).2=(22,3):=b9
 unfold iI
 simp only
 rw[show (jV sd).2.2=3 by rw[h],show (jV sd).2.1=22 by rw[h],if_pos a8]
theorem MC {o:bE} (ht:gK o) (src:Str) (n:Int) (hl:src.length≤1900) {t:Str}{at' e:Nat} (hr:iI src=(t,at',e)) (he:e≠0):bi Tryz.prog 3 o 11 [sv src,iv .i64 n] (· = .tup [.one (.d (.sl [])),iv .i64 e]):=by
 refine hdG Tryz.func11 rfl [.tmp 4,.tmp 5] fun b₀ β0 s0 w0 g=>?_
 simp only[go_sem]
 refine cp rfl (by simp only[go_sem];exact pD ht (xy hl)) ?_
 rintro _ rfl
 rw[hr]
 unfold AJ
 have hei:¬(e:Int)=0:=a6
 simp only[go_sem,hei]
 exact⟨_,⟨_,⟨_,_,rfl,eN .nsl,_,_,rfl,eN _,rfl⟩,rfl⟩,rfl⟩
theorem Fa (a b:Nat):my [a,b]=dec a++[32]++dec b++[10]:=by simp[my,jn]
theorem Cb (a b c d:Nat):my [a,b,c,d]=dec a++[32]++dec b++[32]++dec c++[32]++dec d++[10]:=by simp[my,jn]
theorem AL {s:St}{c1 c2:C}{x1 x2:D} (h1:Frz s c1 x1) (h2:Frz s c2 x2):jc s (.agg [c1,c2]) (.agg [.d x1,.d x2]):=
 ⟨[x1,x2],rfl,fun i c hc=>by match i,hc with|0,hc=>cases hc;exact⟨_,rfl,h1⟩|1,hc=>cases hc;exact⟨_,rfl,h2⟩,rfl⟩
theorem Fb:kC [436207616,5] 3=.tup [sv [50,32,51,10,50,54,32,48,32,48,32,48,10,48,32,53,10],iv .i64 0]:=by
 have d2:dec 2=[50]:=jC a8
 have d3:dec 3=[51]:=jC a8
 have d0:dec 0=[48]:=jC a8
 have d5:dec 5=[53]:=jC a8
 have d26:dec 26=[50,54]:=by rw[xp a8,show 26/10=2 by decide,d2];rfl
 have h1:fV 436207616=[50,54,32,48,32,48,32,48,10]:=by
  unfold fV
  rw[if_pos a8,show 436207616/16777216=26 by decide,show 436207616/1048576%16=0 by decide,Cb,d26,d0];rfl
 have h2:fV 5=[48,32,53,10]:=by
  unfold fV
  rw[if_neg a8,d5];rfl
 unfold kC
 rw[if_pos a8]
 unfold KC
 rw[show [436207616,5].length=2 from rfl,show (3:Int).toNat=3 from rfl,Fa,d2,d3,B4,B4,Q5,h1,h2]
 rfl
theorem Fc:kC [] (-1)=.tup [sv [],iv .i64 1]:=by
 unfold kC
 rw[if_neg a8]
theorem IN {o:bE} (hp:oI o) (ht:gK o):bi Tryz.prog 3 o 4 [] (· = bv true):=by
 refine hdG Tryz.func4 rfl [.tmp 0] fun b₀ β0 s0 w0 g=>?_
 simp only[go_sem]
 refine kU (xs:=[nH [436207616,5] 3]) ay (fun s β ds w h=>h.1.2) rfl ?_ (ur hp [436207616,5] 3 a7) (by rintro _ rfl;rw[Fb];rfl) ?_
 ·simp only[go_sem]
  exact⟨_,_,rfl,AL (mj (code:=[436207616,5]) XR XR rfl) (.d _),rfl⟩
 rintro _ rfl
 rw[Fb]
 simp only[go_sem]
 refine kU (xs:=[nH [] (-1)]) ay (fun s β ds w h=>h.1.2) rfl ?_ (ur hp [] (-1) a7) (by rintro _ rfl;rw[Fc];rfl) ?_
 ·simp only[go_sem]
  exact⟨_,_,rfl,AL (.d .nsl) (.d _),rfl⟩
 rintro _ rfl
 rw[Fc]
 simp only[go_sem]
 refine cp rfl (by simp only[go_sem];exact MC ht sd 100 a8 IM a8) ?_
 rintro _ rfl
 exact VU
end
end Go.Proofs.YtgiigidgdhplfaaGreatDoor.Low
namespace Go.Proofs.YtgiigidgdhplfaaGreatDoor
section
open Go Go.Am Go.Asm
theorem iL {s:St}{n:Int}:nc s [.agg [.d .nsl,.d (.int .i64 0)],iv .i64 n] (.tup [eY ([],0),iv .i64 n]):=by
 refine⟨_,⟨eY ([],0),_,rfl,⟨[dq [],.int .i64 0],rfl,fun i c hc'=>?_,rfl⟩,_,_,rfl,⟨_,.d _,rfl⟩,rfl⟩,rfl⟩
 match i,hc' with
 |0,hc'=>cases hc';exact⟨_,rfl,.d .nsl⟩
 |1,hc'=>cases hc';exact⟨_,rfl,.d _⟩
def RL (e:Nat) (out:Str) (n:Nat):AV:=.agg [.d (.int .i64 (e:Nat)),.d (.str out),.d (.int .i64 (n:Nat))]
theorem AT {s:St}{e n:Nat}{a:Str}{k:Int}:nc s [.agg [.d (.int .i64 (e:Nat)),.d (.str a),.d (.int .i64 (n:Nat))],iv .i64 k] (.tup [RL e a n,iv .i64 k]):=by
 refine⟨_,⟨RL e a n,_,rfl,⟨[.int .i64 e,.str a,.int .i64 n],rfl,fun i c hc'=>?_,rfl⟩,_,_,rfl,⟨_,.d _,rfl⟩,rfl⟩,rfl⟩
 match i,hc' with
 |0,hc'=>cases hc';exact⟨_,rfl,.d _⟩
 |1,hc'=>cases hc';exact⟨_,rfl,.d _⟩
 |2,hc'=>cases hc';exact⟨_,rfl,.d _⟩
end
end Go.Proofs.YtgiigidgdhplfaaGreatDoor
namespace Go.Am
section
open Go.Shelf Go.RowKit
end
end Go.Am
namespace Go.Proofs
section
open Go.Shelf
end
end Go.Proofs
namespace Go.Proofs.YtgiigidgdhplfaaGreatDoor
section
open Go Go.Am Go.Asm Go.Shelf
end
section
open Go Go.Am Go.Asm
theorem Nj {s:St}{a b c x y z:AV} (h1:jc s a x) (h2:jc s b y) (h3:jc s c z):cG s [a,b,c] [x,y,z]:=⟨_,_,rfl,h1,_,_,rfl,h2,_,_,rfl,h3,rfl⟩
theorem vM {s:St}{c:C}{x:D} (h:Frz s c x):jc s (.one c) (.one (.d x)):=⟨_,h,rfl⟩
end
section
open Go Go.Am Go.Asm Go.Mach
theorem w32 (n:Nat):IntKind.u32.wrap (n:Int)=((n%4294967296:Nat):Int):=by rw[IntKind.wrap_u32];omega
theorem cW {n:Nat} (h:n<4294967296):IntKind.u32.wrap (n:Int)=(n:Int):=by rw[w32,M6 h]
theorem AM (a b:Nat):IntKind.u32.wrap ((a:Int)+(b:Int))=(((a+b)%4294967296:Nat):Int):=by rw[IntKind.wrap_u32];omega
theorem Rz (a b:Nat):(a:Int).tdiv (b:Int)=((a/b:Nat):Int):=rfl
theorem RA (a b:Nat):(a:Int).tmod (b:Int)=((a%b:Nat):Int):=rfl
def MD:Option Nat→AV
 |some x=>.tup [iv .u32 (x:Nat),iv .i64 0]
 |none=>.tup [iv .u32 0,iv .i64 14]
def AN (w:Nat):AV:=if cj (w/16777216:Nat) (w/1048576%16:Nat) (w/65536%16:Nat) (w%65536:Nat)=true then .tup [ju (w/16777216:Nat) (w/1048576%16:Nat) (w/65536%16:Nat) (w%65536:Nat),iv .i64 0] else .tup [ju 0 0 0 0,iv .i64 7]
theorem xl {s:St}{a b c d e:Int}:nc s [.agg [.d (.int .i64 a),.d (.int .i64 b),.d (.int .i64 c),.d (.int .i64 d)],iv .i64 e] (.tup [ju a b c d,iv .i64 e]):=by
 refine⟨_,⟨ju a b c d,_,rfl,⟨[.int .i64 a,.int .i64 b,.int .i64 c,.int .i64 d],rfl,fun i c hc'=>?_,rfl⟩,_,_,rfl,⟨_,.d _,rfl⟩,rfl⟩,rfl⟩
 match i,hc' with
 |0,hc'=>cases hc';exact⟨_,rfl,.d _⟩
 |1,hc'=>cases hc';exact⟨_,rfl,.d _⟩
 |2,hc'=>cases hc';exact⟨_,rfl,.d _⟩
 |3,hc'=>cases hc';exact⟨_,rfl,.d _⟩
end
end Go.Proofs.YtgiigidgdhplfaaGreatDoor
namespace Go.Am
section
open Go.RowKit
section
section
variable {P:Program}{b₀:Bs}{β:Loc}{w:World}
end
end
end
end Go.Am
namespace Go.Proofs.YtgiigidgdhplfaaGreatDoor
section
open Go Go.Am Go.Asm Go.Mach
section
structure RC (cs:List C) (code:List Nat) (inp:Str) (m:M) (mc xc:C) (own:Bool):Prop where
 len:cs.length=26
 c0:cs[0]? = some (.d (dq code))
 c1:cs[1]? = some (.d (.str inp))
 c2:cs[2]? = some (.d (.int .i64 (m.pc:Nat)))
 rl:m.reg.length=16
 rg:∀a,a<16→cs[3+a]? = some (.d (.int .u32 (m.r a:Nat)))
 c19:cs[19]? = some mc
 c20:cs[20]? = some (.d (.int .i64 (m.rd:Nat)))
 c21:cs[21]? = some (.d (.str []))
 c22:cs[22]? = some (.d (.int .i64 (m.steps:Nat)))
 c23:cs[23]? = some (.d (.int .i64 (m.fin:Nat)))
 c24:cs[24]? = some (.d (.bool own))
 c25:cs[25]? = some xc
theorem ak {α:Type}{l:List α}{i j:Nat}{x:α} (h:i≠j):(l.set i x)[j]? = l[j]?:=Q9 h
theorem iJ {α:Type}{l:List α}{i:Nat}{x:α} (h:i<l.length):(l.set i x)[i]? = some x:=by simp[h]
section
variable {cs:List C}{code:List Nat}{inp:Str}{m:M}{mc xc:C}{own:Bool}
theorem RB (h:m.reg.length=16) {a:Nat} (ha:a<16) (x k:Nat):({ m with reg:=m.reg.set a x }:M).r k=if k=a then x else m.r k:=by
 unfold M.r
 rw[D0,D0,D2]
 by_cases hk:k=a
 ·subst hk;simp[h,ha]
 ·simp[hk,z7 hk]
end
def gz (l:List Nat):List C:=l.map fun x=>.d (.int .u32 (x:Nat))
def iQ (l:List Nat):D:=.sl (l.map fun x=>[.int .u32 (x:Nat)])
def jW (l:Str):List C:=l.map fun b=>.d (.int .u8 (b.toNat:Nat))
structure Rn (gr:Nat) (code:List Nat) (inp:Str) (m:M) (own:Bool) (g:Nat→Nat) (ob:Obs):Prop where
 gen:g 3012=gr
 obj:∃cs mc xc,ob 3012=some cs∧RC cs code inp m mc xc own∧
  ((own=false∧mc=.d (iQ m.mem))∨(own=true∧m.mem≠[]∧mc=.osl 3100 (g 3100) 1 0 m.mem.length∧ob 3100=some (gz m.mem)))∧
  ((m.out=[]∧xc=.d .nsl)∨(m.out≠[]∧xc=.osl 4133 (g 4133) 1 0 m.out.length∧ob 4133=some (jW m.out)))
variable {gr:Nat}{code:List Nat}{inp:Str}{own:Bool}{g g':Nat→Nat}{ob ob':Obs}
theorem Rn.of{m:M} (h:Rn gr code inp m own g ob) (hg:∀i,i=3012∨i=3100∨i=4133→g' i=g i) (ho:∀i,i=3012∨i=3100∨i=4133→ob' i=ob i):Rn gr code inp m own g' ob':=by
 obtain⟨h1,cs,mc,xc,h2,h3,h4,h5⟩:=h
 exact⟨by rw[hg 3012 a8];exact h1,cs,mc,xc,by rw[ho 3012 a8];exact h2,h3,by rw[hg 3100 a8,ho 3100 a8];exact h4,by rw[hg 4133 a8,ho 4133 a8];exact h5⟩
theorem Rn.cells{m m':M} (h:Rn gr code inp m own g ob) {cs':List C} (hg:∀i,i=3012∨i=3100∨i=4133→g' i=g i) (ho:∀i,i=3100∨i=4133→ob' i=ob i)
  (hc:ob' 3012=some cs') (hm:m'.mem=m.mem) (hx:m'.out=m.out) (hr:∀cs mc xc,ob 3012=some cs→RC cs code inp m mc xc own→RC cs' code inp m' mc xc own):Rn gr code inp m' own g' ob':=by
 obtain⟨h1,cs,mc,xc,h2,h3,h4,h5⟩:=h
 exact⟨by rw[hg 3012 a8];exact h1,cs',mc,xc,hc,hr cs mc xc h2 h3,by rw[hg 3100 a8,ho 3100 a8,hm];exact h4,by rw[hg 4133 a8,ho 4133 a8,hx];exact h5⟩
def Fr (g:Nat→Nat) (ob:Obs) (g':Nat→Nat) (ob':Obs):Prop:=∀i,i<3000→g' i=g i∧ob' i=ob i
theorem aV {res:List Nat}{R:AV→(Nat→Nat)→Obs→Prop}{s:St}{e:Exit} (he:e=.ret∨e=.normal) (h:R (iC s.f res) s.gen s.obj):uN res R e s:=by
 rcases he with rfl|rfl <;> exact⟨_,ab.refl _,h⟩
theorem Rn.done{m m':M}{cs cs':List C} (h:Rn gr code inp m own g ob) (ho:ob 3012=some cs) (hg':∀i,(i<3000∨i=3012∨i=3100∨i=4133)→g' i=g i) (ho':∀i,(i<3000∨i=3100∨i=4133)→ob' i=ob i)
  (hc:ob' 3012=some cs') (hm:m'.mem=m.mem) (hx:m'.out=m.out) (hr:∀mc xc,RC cs code inp m mc xc own→RC cs' code inp m' mc xc own):Fr g ob g' ob'∧Rn gr code inp m' own g' ob':=
 ⟨fun i hi=>⟨hg' i (.inl hi),ho' i (.inl hi)⟩,h.cells (fun i hi=>hg' i a6) (fun i hi=>ho' i a6) hc hm hx fun cs2 mc xc e r=>by rw[ho] at e;cases e;exact hr mc xc r⟩
end
end
end Go.Proofs.YtgiigidgdhplfaaGreatDoor
namespace Go.Mach
section
def dI (a:Nat):List Nat:=(List.range 32).map fun i=>a/2^i%2
def ofB:List Nat→Nat
 |[]=>0
 |b::r=>b+2*ofB r
theorem cD (a:Nat):(dI a).length=32:=by simp[dI]
theorem na {a i:Nat} (h:i<32):(dI a)[i]? = some (a/2^i%2):=by simp[dI,w8,List.getElem?_range h]
theorem zD:∀{l:List Nat},(∀x∈l,x≤1)→ofB l<2^l.length
 |[],_=>by decide
 |b::r,h=>by
   have:=zD (l:=r) fun x hx=>h x (Q8 _ hx)
   have hb:=h b (I0 ..)
   simp only[ofB,j6,O2]
   omega
theorem Gh {l:List Nat}{i x:Nat} (h:l[i]? = some x):ofB (l.drop i)=x+2*ofB (l.drop (i+1)):=by
 have hi:=(l4.1 h).1
 have hx:=(l4.1 h).2
 rw[A0 hi,hx];rfl
theorem xZ (c:Nat):∀n k,ofB ((List.range' k n).map fun i=>c/2^i%2)=c/2^k%2^n
 |0,k=>by rw[S8,Nat.mod_one];rfl
 |n+1,k=>by
   rw[List.range'_succ,l7]
   simp only[ofB]
   rw[xZ c n (k+1),O2 2 k,←M8,show (2:Nat)^(n+1)=2*2^n by rw[O2,U3],Nat.mod_mul]
theorem Cu {c:Nat} (h:c<4294967296):ofB (dI c)=c:=by
 unfold dI
 rw[R1,xZ,S8,U0]
 exact M6 h
def opN (op a b:Nat):Nat:=if op=9 then a &&& b else if op=10 then a ||| b else a ^^^ b
def AZ (op x y:Nat):Nat:=if (x+y=2∧op≠11)∨(x+y=1∧op≠9) then 1 else 0
theorem bitb (a i:Nat):a/2^i%2=(a.testBit i).toNat:=by
 rw[Nat.testBit_eq_decide_div_mod_eq]
 rcases Nat.mod_two_eq_zero_or_one (a/2^i) with h|h <;> simp[h]
theorem Nr {op:Nat} (h:op=9∨op=10∨op=11) (a b i:Nat):AZ op (a/2^i%2) (b/2^i%2)=opN op a b/2^i%2:=by
 rw[bitb,bitb,bitb]
 rcases h with rfl|rfl|rfl
 ·simp only[opN,A5,Nat.testBit_and]
  exact XK
 ·simp only[opN,show ¬(10:Nat)=9 by decide,A4,A5,Nat.testBit_or]
  exact XK
 ·simp only[opN,show ¬(11:Nat)=9 by decide,show ¬(11:Nat)=10 by decide,A4,Nat.testBit_xor]
  exact XK
theorem Ns {op a b:Nat} (ha:a<4294967296) (hb:b<4294967296):opN op a b<4294967296:=by
 unfold opN
 refine cq (Q:=(· < 4294967296)) (fun _=>E9 Nat.and_le_left ha) fun _=>?_
 exact cq (Q:=(· < 4294967296)) (fun _=>Nat.or_lt_two_pow (n:=32) ha hb) fun _=>Nat.xor_lt_two_pow (n:=32) ha hb
end
end Go.Mach
namespace Go.Proofs.YtgiigidgdhplfaaGreatDoor
section
attribute [local congr] Go.Am.ite_cc
open Go Go.Am Go.Asm Go.Mach
section
def iK (l:List Nat):List C:=l.map fun x:Nat=>C.d (.int .i64 x)
def Na (l:List Nat):D:=.sl (l.map fun x:Nat=>[.int .i64 x])
variable {l:List Nat}
theorem sm{i x:Nat} (h:l[i]? = some x):(iK l)[i]? = some (.d (.int .i64 x)):=by unfold iK;rw[w8,h];rfl
theorem Fz{i x:Nat} (h:l[i]? = some x):(l.map fun x:Nat=>[D.int .i64 x])[i]? = some [.int .i64 x]:=by rw[w8,h];rfl
theorem uw {a k:Nat} (h:k<32):(dI a).take (k+1)=(dI a).take k++[a/2^k%2]:=by rw[A2,na h];rfl
theorem Nb (b:Bool):aG Tryz.prog 200 [bv b] (· = iv .u32 (if b=true then 1 else 0:Nat)):=by
 refine hdP Tryz.func200 rfl [2] fun g=>?_
 cases b <;> simp only[go_sem]
theorem Nc (a:Nat) (ha:a<4294967296) {g:Nat→Nat}{ob:Obs}:fg Tryz.prog 211 [iv .u32 a] g ob (fun r g' ob'=>r=.one (.osl 2014 (g' 2014) 1 0 32)∧ob' 2014=some (iK (dI a))∧∀i,i<2000→g' i=g i∧ob' i=ob i):=by
 refine hdF 2000 Tryz.func211 rfl [2] ?_
 simp only[go_sem]
 refine dn (fun n st=>∃k:Nat,n+k=32∧st.f 0=iv .u32 (a/2^k:Nat)∧st.f 4=iv .i64 (k:Nat)∧((k=0∧st.f 3=.one (.d .nsl))∨(0<k∧st.f 3=.one (.osl 2014 (st.gen 2014) 1 0 k)∧st.obj 2014=some (iK ((dI a).take k))))∧∀i,i<2000→st.gen i=g i∧st.obj i=ob i) 32 ?_ ?_
 ·refine⟨0,rfl,?_⟩
  simp only[go_sem,S8,U0]
  exact .inl trivial
 exact Vb
theorem FA (op a b:Nat) (h12:op=12∨op=13) (ha:a<4294967296) (hb:b<4294967296):aG Tryz.prog 199 [iv .i64 op,iv .u32 a,iv .u32 b] (· = iv .u32 (if 31<b then 0 else if op=12 then a*2^b%4294967296 else a/2^b:Nat)):=by
 refine hdP Tryz.func199 rfl [6] fun g=>?_
 by_cases h0:31<b
 ·have h0i:(32:Int)≤(b:Int):=a6
  rw[if_pos h0]
  simp only[go_sem,h0i]
 have h0i:¬(32:Int)≤(b:Int):=a6
 rw[if_neg h0]
 have ha64:IntKind.u64.wrap ((a:Nat):Int)=((a:Nat):Int):=by rw[IntKind.wrap_u64];omega
 simp only[go_sem,h0i,ha64]
 refine du (fun n st=>∃k:Nat,n+k=b∧st.f 0=iv .i64 op∧st.f 2=iv .u32 b∧st.f 8=iv .u32 (k:Nat)∧st.f 7=iv .u64 (if op=12 then a*2^k%4294967296 else a/2^k:Nat)) b ?_ ?_
 ·refine⟨0,rfl,?_⟩
  simp only[go_sem,S8,K8,U0,M6 ha,ite_self]
  try rfl
 rintro n f g' ob ⟨k,hk,q0,q2,q8,q7⟩
 simp only at q0 q2 q8 q7
 have hw:IntKind.u32.wrap ((k:Int)+1)=((k+1:Nat):Int):=by rw[show (k:Int)+1=((k+1:Nat):Int) by omega];exact cW a6
 by_cases hlt:k<b
 ·have hlti:(k:Int)<(b:Int):=a6
  have hv2:a/2^(k+1)=a/2^k/2:=by rw[O2,M8]
  have hv3:a*2^(k+1)%4294967296=2*(a*2^k%4294967296)%4294967296:=by rw[O2,←Nat.mul_assoc];omega
  have hdl:=L7 a (2^k)
  rcases h12 with rfl|rfl
  ·rw[if_pos rfl] at q7
   have hml:=P4 (a*2^k) (show 4294967296>0 by decide)
   generalize a*2^k%4294967296=v at q7 hv3 hml
   have e1:IntKind.u64.wrap (2*(v:Int))=((2*v:Nat):Int):=by rw[IntKind.wrap_u64];omega
   have e2:((2*v:Nat):Int).tmod 4294967296=((2*v%4294967296:Nat):Int):=rfl
   have e3:IntKind.u64.wrap ((2*v%4294967296:Nat):Int)=((2*v%4294967296:Nat):Int):=by rw[IntKind.wrap_u64];omega
   simp only[go_sem,q0,q2,q8,q7,hlti,hw,e1,e2,e3]
   refine bP (n-1) a6 ⟨k+1,a6,?_⟩
   simp only[go_sem,q0,q2,hv3]
  ·rw[if_neg a8] at q7
   generalize a/2^k=v at q7 hv2 hdl
   have e2:(v:Int).tdiv 2=((v/2:Nat):Int):=rfl
   have e3:IntKind.u64.wrap ((v/2:Nat):Int)=((v/2:Nat):Int):=by rw[IntKind.wrap_u64];omega
   simp only[go_sem,q0,q2,q8,q7,hlti,hw,e2,e3]
   refine bP (n-1) a6 ⟨k+1,a6,?_⟩
   simp only[go_sem,q0,q2,hv2]
 ·have hlti:¬(k:Int)<(b:Int):=a6
  obtain rfl:k=b:=a6
  have hdl:=L7 a (2^k)
  have hml:=P4 (a*2^k) (show 4294967296>0 by decide)
  have hxl:(if op=12 then a*2^k%4294967296 else a/2^k)<4294967296:=cq (Q:=(· < 4294967296)) (fun _=>hml) fun _=>by omega
  generalize (if op=12 then a*2^k%4294967296 else a/2^k)=v at q7 hxl ⊢
  simp only[go_sem,q0,q2,q8,q7,hlti,cW hxl]
theorem Mh (l:List Nat) (hl:l.length=32) (h1:∀x∈l,x≤1):aG Tryz.prog 212 [.one (.d (Na l))] (· = iv .u32 (ofB l:Nat)):=by
 refine hdP Tryz.func212 rfl [2] fun g=>?_
 unfold Na
 simp only[go_sem,j5,hl]
 refine du (fun n st=>∃k:Nat,n=k∧k≤32∧st.f 0=.one (.d (.sl (l.map fun x:Nat=>[.int .i64 x])))∧st.f 4=iv .i64 ((k:Int)-1)∧st.f 3=iv .u64 (ofB (l.drop k):Nat)) 32 ?_ ?_
 ·refine⟨32,rfl,l0 _,?_⟩
  simp only[go_sem,D8 (U2 hl)]
  exact⟨a8,rfl⟩
 rintro n f g' ob ⟨k,rfl,hk,q0,q4,q3⟩
 simp only at q0 q4 q3
 cases n with
 |zero=>
   have hno:¬(0:Int)≤0-1:=a8
   have hv:=zD h1
   rw[hl] at hv
   have e2:((ofB l:Nat):Int).tmod 4294967296=((ofB l%4294967296:Nat):Int):=rfl
   have e4:ofB l%4294967296=ofB l:=M6 hv
   have e3:IntKind.u64.wrap ((ofB l:Nat):Int)=((ofB l:Nat):Int):=by rw[IntKind.wrap_u64];omega
   rw[C1] at q3
   simp only[go_sem,q0,q4,q3,hno,e2,e4,e3,cW hv]
 |succ k=>
   have hyes:(0:Int)≤((k+1:Nat):Int)-1:=a6
   have hkk:((k+1:Nat):Int)-1=(k:Int):=a6
   obtain⟨x,hx⟩:=getq (show k<l.length by omega)
   have hx1:=h1 x (l6 hx)
   have hv:=zD (l:=l.drop (k+1)) fun y hy=>h1 y (N6 hy)
   rw[D7,hl] at hv
   have hv32:ofB (l.drop (k+1))<4294967296:=E5 hv (A9 (Nat.pow_le_pow_right a8 (show 32-(k+1)≤32 by omega)) a8)
   have hdr:=Gh hx
   have hg:=Fz hx
   generalize ofB (l.drop (k+1))=v at q3 hv32 hdr
   have hk0:(0:Int)≤(k:Int):=a6
   have e1:IntKind.u64.wrap (2*(v:Int))=((2*v:Nat):Int):=by rw[IntKind.wrap_u64];omega
   have e2:IntKind.u64.wrap (x:Int)=(x:Int):=by rw[IntKind.wrap_u64];omega
   have e3:IntKind.u64.wrap (((2*v:Nat):Int)+(x:Int))=((x+2*v:Nat):Int):=by rw[IntKind.wrap_u64];omega
   have e4:IntKind.i64.wrap ((k:Int)-1)=(k:Int)-1:=by rw[wrap_i64] <;> omega
   rw[hkk] at q4 hyes
   simp only[go_sem,q0,q4,q3,hyes,hg,hk0,e1,e2,e3,e4]
   refine bP k a6 ⟨k,rfl,a6,?_⟩
   simp only[go_sem,q0,hdr]
end
section
theorem Jb (a:Nat) (ha:a<4294967296) {g:Nat→Nat}{ob:Obs}:fg Tryz.prog 211 [iv .u32 a] g ob (fun r g' ob'=>r=.one (.osl 2114 (g' 2114) 1 0 32)∧ob' 2114=some (iK (dI a))∧∀i,i<2100→g' i=g i∧ob' i=ob i):=by
 refine hdF 2100 Tryz.func211 rfl [2] ?_
 simp only[go_sem]
 refine dn (fun n st=>∃k:Nat,n+k=32∧st.f 0=iv .u32 (a/2^k:Nat)∧st.f 4=iv .i64 (k:Nat)∧((k=0∧st.f 3=.one (.d .nsl))∨(0<k∧st.f 3=.one (.osl 2114 (st.gen 2114) 1 0 k)∧st.obj 2114=some (iK ((dI a).take k))))∧∀i,i<2100→st.gen i=g i∧st.obj i=ob i) 32 ?_ ?_
 ·refine⟨0,rfl,?_⟩
  simp only[go_sem,S8,U0]
  exact .inl trivial
 exact Vb
variable {l1 l2:List Nat}
theorem Jc{k x:Nat} (h1:l1[k]? = some x) (h2:k<l2.length):(l1.take k++l2.drop k).set k x=l1.take (k+1)++l2.drop (k+1):=by
 have hk:=(l4.1 h1).1
 have hl:(l1.take k).length=k:=by rw[A8];omega
 rw[I9 _ _ a6,hl,L9,A0 h2,G2,A2,h1]
 simp
theorem Jd{k x:Nat} (h1:k≤l1.length) (h2:l2[k]? = some x):(l1.take k++l2.drop k)[k]? = some x:=by
 have hl:(l1.take k).length=k:=by rw[A8];omega
 rw[E8 a6,hl,L9,G4,I6,h2]
theorem xw (l:List Nat) (k x:Nat):(iK l).set k (.d (.int .i64 x))=iK (l.set k x):=by unfold iK;rw[S7]
theorem Ci (l:List Nat) (k x:Nat):((iK l).set k (.d (.int .i64 0))).set k (.d (.int .i64 x))=iK (l.set k x):=by rw[List.set_set,xw]
theorem sq (l:List Nat):(iK l).length=l.length:=by simp[iK]
theorem FB {a:Nat}:∀x∈dI a,x≤1:=fun x hx=>by
 unfold dI at hx
 obtain⟨i,_,rfl⟩:=H8.1 hx
 omega
theorem Nd (op a b:Nat) (h:op=9∨op=10∨op=11) (ha:a<4294967296) (hb:b<4294967296):aG Tryz.prog 198 [iv .i64 op,iv .u32 a,iv .u32 b] (· = iv .u32 (opN op a b:Nat)):=by
 refine hdP Tryz.func198 rfl [6] fun g=>?_
 have hcl:=Ns (op:=op) ha hb
 simp only[go_sem]
 refine bp rfl (by simp only[go_sem];exact Nc a ha) ?_
 rintro _ g1 ob1 ⟨rfl,o1,_⟩
 simp only[go_sem]
 refine bp rfl (by simp only[go_sem];exact Jb b hb) ?_
 rintro _ g2 ob2 ⟨rfl,o2,hs2⟩
 have e1:g2 2014=g1 2014:=(hs2 2014 a8).1
 have o1':ob2 2014=some (iK (dI a)):=(hs2 2014 a8).2.trans o1
 clear hs2 o1
 simp only[go_sem]
 refine du (fun n st=>∃k:Nat,n+k=32∧st.f 0=iv .i64 op∧st.f 9=iv .i64 (k:Nat)∧st.f 7=.one (.osl 2014 (st.gen 2014) 1 0 32)∧st.f 8=.one (.osl 2114 (st.gen 2114) 1 0 32)∧st.obj 2014=some (iK ((dI (opN op a b)).take k++(dI a).drop k))∧st.obj 2114=some (iK (dI b))) 32 ?_ ?_
 ·refine⟨0,rfl,?_⟩
  simp only[go_sem,e1,o1',o2]
 rintro n f g' ob ⟨k,hk,q0,q9,q7,q8,p1,p2⟩
 simp only at q0 q9 q7 q8 p1 p2
 have hw:=ah (k:=k) a6
 have hL:((dI (opN op a b)).take k++(dI a).drop k).length=32:=by rw[j4,A8,D7,cD,cD];omega
 by_cases hlt:k<32
 ·have hlti:(k:Int)<32:=a6
  have hk0:(0:Int)≤(k:Int):=a6
  have hgx:=sm (Jd (l1:=dI (opN op a b)) (by rw[cD];omega) (na (a:=a) hlt))
  have hgy:=sm (na (a:=b) hlt)
  have hbit:=Nr h a b k
  have hx1:a/2^k%2≤1:=a6
  have hy1:b/2^k%2≤1:=a6
  have hset:=Jc (l1:=dI (opN op a b)) (l2:=dI a) (x:=opN op a b/2^k%2) (na hlt) (by rw[cD];exact hlt)
  rw[←hbit] at hset
  generalize a/2^k%2=x at hgx hx1 hset
  generalize b/2^k%2=y at hgy hy1 hset
  generalize (dI (opN op a b)).take k++(dI a).drop k=L at p1 hL hgx hset
  have hCL:(iK L).length=32:=by rw[sq,hL]
  have hsum:IntKind.i64.wrap ((x:Int)+(y:Int))=((x+y:Nat):Int):=by rw[wrap_i64] <;> omega
  have hz:∀v,v=AZ op x y→iK (L.set k v)=iK ((dI (opN op a b)).take (k+1)++(dI a).drop (k+1)):=fun v hv=>by rw[hv,hset]
  clear hset hbit
  have h0s:=xw L k 0
  have h1s:=Ci L k 1
  generalize hs:x+y=s at hsum
  have hs2:s≤2:=a6
  rcases h with rfl|rfl|rfl <;> obtain rfl|rfl|rfl:s=0∨s=1∨s=2:=a6
  all_goals
   simp only[go_sem,q0,q9,q7,q8,p1,p2,hlti]
   refine qX b9 ?_
   simp only[go_sem,q0,q9,q7,q8,p1,p2,hlti,hk0,C5,K8,hgx,hgy,hsum,hCL,sq]
   first
   | (refine⟨a6,by rw[C6,hCL];omega,?_⟩
      refine bP (n-1) a6 ⟨k+1,a6,?_⟩
      simp only[go_sem,q0,q7,q8,p2,hw]
      exact h1s.trans (hz 1 (by unfold AZ;rw[hs];rfl)))
   | (refine⟨a6,?_⟩
      refine bP (n-1) a6 ⟨k+1,a6,?_⟩
      simp only[go_sem,q0,q7,q8,p2,hw]
      exact h0s.trans (hz 0 (by unfold AZ;rw[hs];rfl)))
 ·have hlti:¬(k:Int)<32:=a6
  obtain rfl:k=32:=a6
  rw[l5 (by rw[cD];decide),D8 (by rw[cD];decide),l8] at p1
  simp only[go_sem,q0,q9,q7,q8,p1,p2,show ¬((32:Nat):Int)<32 by decide]
  refine tD rfl (xs:=[.one (.d (Na (dI (opN op a b))))]) ?_ (Mh _ (cD _) FB) Zd ?_
  ·simp only[go_sem,q7]
   exact⟨_,_,rfl,⟨_,qF (cells:=iK (dI (opN op a b))) (off:=0) rfl (by simp[upd,p1]) (dI (opN op a b)) (fun x=>.int .i64 (x:Nat)) (fun _=>rfl) (cD _) (fun j a h=>by rw[C5];exact sm h) (by rw[sq,cD];decide),rfl⟩,rfl⟩
  rintro _ rfl
  rw[Cu hcl]
  exact VU
theorem w64 {n:Nat} (h:n<18446744073709551616):IntKind.u64.wrap ((n:Nat):Int)=((n:Nat):Int):=by rw[IntKind.wrap_u64];omega
theorem FC (op a b:Nat) (h4:4≤op) (h15:op≤15) (ha:a<4294967296) (hb:b<4294967296):aG Tryz.prog 171 [iv .i64 op,iv .u32 a,iv .u32 b] (· = MD (applyN op a b)):=by
 refine hdP Tryz.func171 rfl [6,7] fun g=>?_
 have h1:=Nd op a b
 have h2:=FA op a b
 have h3:=Nb
 have hd:=L7 a b
 have hm:=Nat.mod_le a b
 have hml:a*b<18446744073709551616:=E5 (Nat.mul_lt_mul'' ha hb) a8
 have e1:=w64 (n:=a) a6
 have e2:=w64 (n:=b) a6
 have mlt:∀n,n%4294967296<4294967296:=fun n=>P4 _ a8
 have m32:∀n:Nat,IntKind.u32.wrap ((n%4294967296:Nat):Int)=((n%4294967296:Nat):Int):=fun n=>cW (mlt n)
 have m64:∀n:Nat,IntKind.u64.wrap ((n%4294967296:Nat):Int)=((n%4294967296:Nat):Int):=fun n=>w64 (by have:=mlt n;omega)
 have hmod:∀n:Nat,((n:Nat):Int).tmod 4294967296=((n%4294967296:Nat):Int):=fun _=>rfl
 unfold MD applyN
 obtain rfl|rfl|rfl|rfl|rfl|rfl|rfl|rfl|rfl|rfl|rfl|rfl:op=4∨op=5∨op=6∨op=7∨op=8∨op=9∨op=10∨op=11∨op=12∨op=13∨op=14∨op=15:=a6
 ·have e3:IntKind.u64.wrap ((a:Int)+(b:Int))=((a+b:Nat):Int):=by rw[IntKind.wrap_u64];omega
  simp only[go_sem,e1,e2,e3,hmod,m64,m32]
 ·have e3:IntKind.u64.wrap ((a:Int)+4294967296)=((a+4294967296:Nat):Int):=by rw[IntKind.wrap_u64];omega
  have e4:IntKind.u64.wrap (((a+4294967296:Nat):Int)-(b:Int))=((a+4294967296-b:Nat):Int):=by rw[IntKind.wrap_u64];omega
  simp only[go_sem,e1,e2,e3,e4,hmod,m64,m32]
 ·have e3:IntKind.u64.wrap ((a:Int)*(b:Int))=((a*b:Nat):Int):=by rw[←R3];exact w64 hml
  simp only[go_sem,e1,e2,e3,hmod,m64,m32]
 ·by_cases hz:b=0
  ·have hzi:(b:Int)=0:=a6
   simp only[go_sem,e1,e2,hz]
  ·have hzi:¬(b:Int)=0:=a6
   simp only[go_sem,e1,e2,hzi,hz,Rz,w64 (show a/b<18446744073709551616 by omega),cW (show a/b<4294967296 by omega)]
 ·by_cases hz:b=0
  ·have hzi:(b:Int)=0:=a6
   simp only[go_sem,e1,e2,hz]
  ·have hzi:¬(b:Int)=0:=a6
   simp only[go_sem,e1,e2,hzi,hz,RA,w64 (show a%b<18446744073709551616 by omega),cW (show a%b<4294967296 by omega)]
 iterate 3
  ·simp only[go_sem,e1,e2]
   refine fm rfl (by simp only[go_sem];exact h1 a8 ha hb) ?_
   rintro _ rfl
   simp only[go_sem,opN]
 iterate 2
  ·simp only[go_sem,e1,e2]
   refine fm rfl (by simp only[go_sem];exact h2 a8 ha hb) ?_
   rintro _ rfl
   simp only[go_sem]
 ·by_cases hl:a<b
  ·have hli:(a:Int)<(b:Int):=a6
   exact WZ
  ·have hli:¬(a:Int)<(b:Int):=a6
   exact WY
 ·by_cases hl:a=b
  ·have hli:(a:Int)=(b:Int):=a6
   exact WZ
  ·have hli:¬(a:Int)=(b:Int):=a6
   exact WY
end
end
end Go.Proofs.YtgiigidgdhplfaaGreatDoor
namespace Go.Mach
section
open Go.Asm (Str)
def w4 (a b c d:UInt8):Nat:=a.toNat+256*b.toNat+65536*c.toNat+16777216*d.toNat
def ez:Str→List Nat
 |a::b::c::d::r=>w4 a b c d::ez r
 |_=>[]
def eA (s:Str):Option (List Nat×Nat):=
 if s.length<12∨s.take 4≠[83,69,69,68]∨65548<s.length then none
 else match ez ((s.take 12).drop 4) with
  |[n,d]=>if 32768<d∨s.length≠12+4*n then none else some (ez (s.drop 12),d)
  |_=>none
theorem lu:∀s:Str,(ez s).length=s.length/4
 |[]=>rfl
 |[_]=>by simp[ez]
 |[_,_]=>by simp[ez]
 |[_,_,_]=>by simp[ez]
 |a::b::c::d::r=>by unfold ez;rw[j6,lu r];simp only[j6];omega
theorem uA:∀s:Str,∀w∈ez s,w<4294967296
 |[],w,h=>by cases h
 |[_],w,h=>by cases h
 |[_,_],w,h=>by cases h
 |[_,_,_],w,h=>by cases h
 |a::b::c::d::r,w,h=>by
   unfold ez at h
   rcases x9.1 h with rfl|h
   ·have ha:=a.toNat_lt;have hb:=b.toNat_lt;have hc:=c.toNat_lt;have hd:=d.toNat_lt
    unfold w4;omega
   ·exact uA r w h
theorem sB:∀(s:Str) (k:Nat) {a b c d:UInt8},s[4*k]? = some a→s[4*k+1]? = some b→s[4*k+2]? = some c→s[4*k+3]? = some d→(ez s)[k]? = some (w4 a b c d)
 |[],k,a,b,c,d,h,_,_,_=>by simp at h
 |[_],k,a,b,c,d,_,h,_,_=>by simp at h
 |[_,_],k,a,b,c,d,_,_,h,_=>by simp at h
 |[_,_,_],k,a,b,c,d,_,_,_,h=>by simp at h
 |a'::b'::c'::d'::r,0,a,b,c,d,h1,h2,h3,h4=>by
   simp at h1 h2 h3 h4
   subst h1 h2 h3 h4
   rfl
 |a'::b'::c'::d'::r,k+1,a,b,c,d,h1,h2,h3,h4=>by
   unfold ez
   rw[l9]
   refine sB r k ?_ ?_ ?_ ?_
   ·rw[←h1,show 4*(k+1)=4*k+1+1+1+1 by omega];simp
   ·rw[←h2,show 4*(k+1)+1=(4*k+1)+1+1+1+1 by omega];simp
   ·rw[←h3,show 4*(k+1)+2=(4*k+2)+1+1+1+1 by omega];simp
   ·rw[←h4,show 4*(k+1)+3=(4*k+3)+1+1+1+1 by omega];simp
theorem tv {s:Str}{m:List Nat×Nat} (h:eA s=some m):m.1.length≤16384∧m.2≤32768∧∀w∈m.1,w<4294967296:=by
 unfold eA at h
 split at h
 ·cases h
 rename_i hc
 split at h
 ·split at h
  ·cases h
  ·rename_i n d _ hx
   cases h
   simp only
   refine⟨?_,a6,uA _⟩
   rw[lu,D7]
   omega
 ·cases h
end
end Go.Mach

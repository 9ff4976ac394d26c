/- A part of the proof; no conditions. -/
import Derived.Test.YtphohejoiocikaaGreatDoorPart20
set_option linter.unusedSimpArgs false
set_option linter.unusedVariables false
set_option maxHeartbeats 64000000
set_option maxRecDepth 100000
namespace Go.Proofs.YtphohejoiocikaaGreatDoor
section
attribute [local congr] Go.Am.ite_cc
open Go Go.Am Go.Asm
open Go.Src (aY ae takeN Ex Stm RQ isR ah bg kM eR loR aR gR goR kE rem)
section
section
variable {b₀:Bs}{rd:Option Nat}{Φ:St→Am.Loc→List Deferred→World→Prop}
theorem uI (ts:List Src.Tok) (q:Nat×Bool) (x:Nat) (hx0:0<x) (hΦ:aX b₀ Φ) {o:Oper}{s:St}{K:St→Prop}{k:Box K}{args:Array Operand}{tys:Array TypeId} (ho:o.op=.call ⟨.value (.func 100),args,tys⟩)
  (hx:args.toList.map s.ev=[.one (.ptr 125 (s.gen 125) 0),iv .i64 x]) (hob:s.obj 125=some (rdW ts q)) {B0:Nat}{Ψ:dL}
  (h1:q.2=false∧aY ts q.1=x→K (St.put s o.dst (bv true))) (h2:¬(q.2=false∧aY ts q.1=x)→K (St.put s o.dst (bv false))):br (spF Tryz.prog rd b₀ Φ B0 Ψ) o s k:=by
 by_cases hc:q.2=false∧aY ts q.1=x
 ·refine am hΦ ho (by rw[hx];exact rz hx0 hob (w9 hc)) ?_
  rintro _ _ _ ⟨rfl,rfl,rfl⟩
  exact h1 hc
 ·refine am hΦ ho (by rw[hx];exact rz hx0 hob (s6 hc)) ?_
  rintro _ _ _ ⟨rfl,rfl,rfl⟩
  exact h2 hc
end
variable {ts:List Src.Tok}
theorem FE{k:Nat}{q:Nat×Bool} (hl:ts.length≤100000) (ih:ExW ts k) (hq:q.1≤ts.length) (hk:13*rem ts q+1≤k+1):iX 187 [] ts q (aR ts (k+1) q) exV:=by
 intro B g ob hB hf ho
 obtain⟨p,hp⟩:∃p,aR ts (k+1) q=p:=⟨_,rfl⟩
 rw[hp]
 rw[aR] at hp
 refine ck.toR (hdM B [125] Tryz.func187 rfl [.cell 2 229] N7 hf fun b₀ β0 s0 w0=>?_)
 have n1:=nlo hB
 have n2:=nhi hB
 have hin:InF B g ob g ob:=InF.refl
 have hf1:=hf
 simp only[go_sem,n1,n2]
 refine uI ts q 2 a8 aa rfl N4 N6 (fun h=>?_) (fun h=>?_)
 ·rw[if_pos h] at hp
  simp only[go_sem,n1,n2]
  refine aA aa rfl (gG ts q 2 a8 a6) N5 (B+59) a6 (fi hf1) N6 ?_
  rcases ht:bg ts 2 q with⟨t,q1⟩
  rw[ht] at hp
  unfold fM fB
  simp only[go_sem,n1,n2]
  refine⟨_,al.refl _,?_⟩
  simp only[go_sem,n1,n2]
  exact InF.retW (r:=(.mk 1 0 t.num [] [],q1)) (enc:=exV) (InF.go hin) hp.symm N4 (pV .nil) (by simp[pack,exV,exD,kQ])
 rw[if_neg h] at hp
 simp only[go_sem,n1,n2]
 refine bF ts q [103,101,116] aa rfl N4 N6 a6 (fun h=>?_) (fun h=>?_)
 ·rw[if_pos h] at hp
  have hlt:=Src.cP h a7
  simp only[go_sem,n1,n2]
  refine aE ts (q.1+1,false) [40] aa rfl N4 N4 Oa (B+59) a6 (fi hf1) ?_
  have hm:=Src.bY (ts:=ts) (s:=[40]) (q:=(q.1+1,false)) a7 hlt
  simp only[go_sem,n1,n2]
  refine aE ts (ah ts [40] (q.1+1,false)) [41] aa rfl N4 N4 a6 (B+59) a6 (fi hf1) ?_
  simp only[go_sem,n1,n2]
  refine⟨_,al.refl _,?_⟩
  simp only[go_sem,n1,n2]
  exact InF.retW (r:=(.mk 5 0 0 [] [],ah ts [41] (ah ts [40] (q.1+1,false)))) (enc:=exV) (InF.go hin) hp.symm N4 (pV .nil) (by simp[pack,exV,exD,kQ])
 rw[if_neg h] at hp
 simp only[go_sem,n1,n2]
 refine bF ts q [33] aa rfl N4 N6 a6 (fun h=>?_) (fun h=>?_)
 ·rw[if_pos h] at hp
  have hlt:=Src.cP h a7
  have hr:=Src.fS a7 h
  have hc:=ih.atom (q.1+1,false) hlt a6
  rcases he:aR ts k (q.1+1,false) with⟨e,q1⟩
  rw[he] at hc
  simp only[he] at hp
  simp only[go_sem,n1,n2]
  refine aA aa rfl hc N5 (B+59) a6 (fi hf1) N4 ?_
  simp only[go_sem,n1,n2,exV,aK,b7]
  refine⟨_,al.refl _,?_⟩
  simp only[go_sem,n1,n2]
  exact InF.retW (r:=(.mk 7 0 0 [] [e],q1)) (enc:=exV) (InF.go hin) hp.symm N4 (pV (kh (l:=[e]) a6 N4 (by simp only[go_sem,n1,n2,nS]) rfl)) OL
 rw[if_neg h] at hp
 simp only[go_sem,n1,n2]
 refine bF ts q [40] aa rfl N4 N6 a6 (fun h=>?_) (fun h=>?_)
 ·rw[if_pos (show isR ts Src.aW q from h)] at hp
  have hlt:=Src.cP h a7
  have hr:=Src.fS a7 h
  have hc:=ih.expr 1 (q.1+1,false) a6 a6 hlt a6
  have hm:=Src.jL (ts:=ts) k 1 (q.1+1,false) a6 hlt
  rcases he:eR ts k 1 (q.1+1,false) with⟨⟨ek,eo,en,es,ekd⟩,q1⟩
  rw[he] at hc hm
  simp only[he] at hp
  simp only at hm
  simp only[go_sem,n1,n2]
  refine aA aa rfl hc N5 (B+59) a6 (fi hf1) N4 ?_
  simp only[go_sem,n1,n2,exV,exD]
  refine aE ts q1 [41] aa rfl N4 N4 a6 (B+59) a6 (fi hf1) ?_
  simp only[go_sem,n1,n2]
  refine⟨_,al.refl _,?_⟩
  simp only[go_sem,n1,n2]
  exact InF.retW (r:=(.mk ek eo en es ekd,ah ts [41] q1)) (enc:=exV) (InF.go hin) hp.symm N4 (pV (.d _)) OL
 rw[if_neg (show ¬isR ts Src.aW q from h)] at hp
 simp only[go_sem,n1,n2]
 refine aA aa rfl (gG ts q 1 a8 a6) N5 (B+59) a6 (fi hf1) N6 ?_
 have hmt:=Src.kf (ts:=ts) (k:=1) a8 hq
 have hrt:=Src.nM (ts:=ts) (k:=1) a8 (q:=q)
 rcases ht:bg ts 1 q with⟨t,q0⟩
 rw[ht] at hp hmt hrt
 simp only at hp hmt hrt
 unfold fM fB
 simp only[go_sem,n1,n2]
 refine bF ts q0 [91] aa rfl N4 N4 a6 (fun h=>?_) (fun h=>?_)
 ·rw[if_pos h] at hp
  have hlt:=Src.cP h a7
  have hr:=Src.fS a7 h
  have hc:=ih.expr 1 (q0.1+1,false) a6 a6 hlt a6
  have hm:=Src.jL (ts:=ts) k 1 (q0.1+1,false) a6 hlt
  rcases he:eR ts k 1 (q0.1+1,false) with⟨⟨ek,eo,en,es,ekd⟩,q1⟩
  rw[he] at hc hm
  simp only[he] at hp
  simp only at hm
  simp only[go_sem,n1,n2]
  refine aA aa rfl hc N5 (B+59) a6 (fi hf1) N4 ?_
  simp only[go_sem,n1,n2,exV,exD]
  refine aE ts q1 [93] aa rfl N4 N4 a6 (B+59) a6 (fi hf1) ?_
  simp only[go_sem,n1,n2]
  refine⟨_,al.refl _,?_⟩
  simp only[go_sem,n1,n2]
  exact InF.retW (r:=(.mk 3 0 0 t.text [.mk ek eo en es ekd],ah ts [93] q1)) (enc:=exV) (InF.go hin) hp.symm N4 (pV (kh (l:=[.mk ek eo en es ekd]) a6 N4 OE rfl)) OL
 rw[if_neg h] at hp
 simp only[go_sem,n1,n2]
 refine bF ts q0 [40] aa rfl N4 N4 a6 (fun h=>?_) (fun h=>?_)
 ·rw[if_pos (show isR ts Src.aW q0 from h)] at hp
  have hlt:=Src.cP h a7
  have hr:=Src.fS a7 h
  have hc:=ih.args (q0.1+1,false) hlt a6
  rcases he:gR ts k (q0.1+1,false) with⟨l,q1⟩
  rw[he] at hc
  simp only[he] at hp
  simp only[go_sem,n1,n2]
  refine aA aa rfl hc N5 (B+59) a6 (fi hf1) N4 ?_
  simp only[go_sem,n1,n2,df]
  refine⟨_,al.refl _,?_⟩
  simp only[go_sem,n1,n2]
  exact InF.retW (r:=(.mk 4 0 0 t.text l,q1)) (enc:=exV) (InF.go hin) hp.symm N4 (pV (.d _)) (by simp[pack,exV,exD,bw])
 rw[if_neg (show ¬isR ts Src.aW q0 from h)] at hp
 simp only[go_sem,n1,n2]
 refine⟨_,al.refl _,?_⟩
 simp only[go_sem,n1,n2]
 exact InF.retW (r:=(.mk 2 0 0 t.text [],q0)) (enc:=exV) (InF.go hin) hp.symm N4 (pV .nil) (by simp[pack,exV,exD,kQ])
theorem JA (hl:ts.length≤100000) (k:Nat):ExW ts k:=by
 induction k using Nat.strongRecOn with
 |ind k ih=>
 cases k with
 |zero=>exact⟨fun least q _ _ _ h=>absurd h a6,fun q _ h=>absurd h a6,fun q _ h=>absurd h a6⟩
 |succ k=>exact⟨fun least q h1 h2 h3 h4=>FC hl (fun j hj=>ih j a6) h1 h2 h3 h4,fun q h1 h2=>FE hl (ih k a6) h1 h2,fun q h1 h2=>FD hl (fun j hj=>ih j a6) h1 h2⟩
end
end
end Go.Proofs.YtphohejoiocikaaGreatDoor

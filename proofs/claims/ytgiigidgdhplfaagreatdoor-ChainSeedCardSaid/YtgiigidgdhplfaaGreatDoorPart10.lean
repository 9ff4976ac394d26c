/- A part of the proof; no conditions. -/
import Derived.Test.YtgiigidgdhplfaaGreatDoorPart9
set_option linter.unusedSimpArgs false
set_option linter.unusedVariables false
set_option maxHeartbeats 64000000
set_option maxRecDepth 100000
namespace Go.Proofs.YtgiigidgdhplfaaGreatDoor
section
open Go Go.Am Go.Asm
open Go.Src (PR bO ap takeN bt Ex Stm cw fW eH fb fX)
section
variable {α:Type}{B:Nat}{g:Nat→Nat}
section
variable {b₀:Bs}{rd:Option Nat}{Φ:St→Am.Loc→List Deferred→World→Prop}{B0:Nat}{Ψ:fj}{o:Oper}{s:St}{K:St→Prop}{k:Box K}{args:Array Operand}{tys:Array TypeId}
theorem uc (ts:List Src.Tok) (n fin:Nat) (hΦ:aQ b₀ Φ) (ho:o.op=.call ⟨.value (.func 89),args,tys⟩) (hx:args.toList.map s.ev=[.one (.ptr 125 (s.gen 125) 0)]) (hob:s.obj 125=some (rdC ts n fin)) (hk:K (s.put o.dst (iv .i64 (bO ts n:Nat)))):aR (spF Tryz.prog rd b₀ Φ B0 Ψ) o s k:=by
 refine ba hΦ ho (by rw[hx];exact Es hob) ?_
 rintro _ g1 ob1 ⟨rfl,rfl,rfl⟩
 exact hk
theorem BP (ts:List Src.Tok) (n fin:Nat) (hΦ:aQ b₀ Φ) (ho:o.op=.call ⟨.value (.func 88),args,tys⟩) (hx:args.toList.map s.ev=[.one (.ptr 125 (s.gen 125) 0)]) (Bc:Nat) (hB:200≤Bc) (hfree:∀i,Bc≤i→s.obj i=none) (hob:s.obj 125=some (rdC ts n fin)) (hk:K (s.put o.dst (sv (ap ts n)))):aR (spF Tryz.prog rd b₀ Φ B0 Ψ) o s k:=by
 refine ba hΦ ho (by rw[hx];exact yK hB hfree hob) ?_
 rintro _ g1 ob1 ⟨rfl,rfl,rfl⟩
 exact hk
theorem bM (ts:List Src.Tok) (n fin:Nat) (str:Str) (hΦ:aQ b₀ Φ) (ho:o.op=.call ⟨.value (.func 58),args,tys⟩) (hx:args.toList.map s.ev=[.one (.ptr 125 (s.gen 125) 0),sv str]) (Bc:Nat) (hB:200≤Bc) (hfree:∀i,Bc≤i→s.obj i=none) (hob:s.obj 125=some (rdC ts n fin)) (hn:n≤1000000)
  (hy:ap ts n=str→K (St.put ⟨s.f,s.gen,upd s.obj 125 (some (rdC ts (n+1) fin))⟩ o.dst (bv true))) (hz:ap ts n≠str→K (s.put o.dst (bv false))):aR (spF Tryz.prog rd b₀ Φ B0 Ψ) o s k:=by
 refine ba hΦ ho (by rw[hx];exact Rk hB hfree hob hn str) ?_
 rintro _ g1 ob1 ⟨rfl,⟨h,rfl,rfl⟩|⟨h,rfl,rfl⟩⟩
 ·exact hy h
 ·exact hz h
theorem bw (ts:List Src.Tok) (n fin:Nat) (hΦ:aQ b₀ Φ) (ho:o.op=.call ⟨.value (.func 61),args,tys⟩) (l:List Str) (j:Nat) (hx:args.toList.map s.ev=[.one (.ptr 125 (s.gen 125) 0),.one (.osl j (s.gen j) 1 0 l.length)]) (Bc:Nat) (hB:200≤Bc) (hfree:∀i,Bc≤i→s.obj i=none) (hob:s.obj 125=some (rdC ts n fin)) (hn:n+l.length≤1000000) (hj:j<Bc) (hj1:j≠125) (hjo:s.obj j=some (bH l))
{ob:Obs}{p':PR α} (hin:InF B g ob s.gen s.obj) (hno:∀m,bt ts l n=.no m→p'=.no m)
  (hk:∀m,bt ts l n=.ok () m→K (St.put ⟨s.f,s.gen,upd s.obj 125 (some (rdC ts m fin))⟩ o.dst uv)):aR (spF Tryz.prog rd b₀ Φ B0 (Dc B [125] g ob (NoR ts fin p' g ob))) o s k:=by
 refine bq (R:=OkR ts fin (bt ts l n) (fun _=>uv) s.gen s.obj) (Ψ0:=NoR ts fin (bt ts l n) s.gen s.obj) hΦ ho (by rw[hx];exact LX l hB hfree hob hn hj hj1 hjo) ?_ ?_
 ·exact XD
 ·rintro r g' ob' ⟨rfl,a,m,hp,rfl,rfl⟩
  exact hk m hp
theorem BQ (ts:List Src.Tok) (n fin:Nat) (hΦ:aQ b₀ Φ) (ho:o.op=.call ⟨.value (.func 57),args,tys⟩) (hx:args.toList.map s.ev=[.one (.ptr 125 (s.gen 125) 0)]) (hob:s.obj 125=some (rdC ts n fin))
{ob:Obs}{p':PR α} (hin:InF B g ob s.gen s.obj) (hno:p'=.no n):aR (spF Tryz.prog rd b₀ Φ B0 (Dc B [125] g ob (NoR ts fin p' g ob))) o s k:=by
 refine bq (R:=fun _ _ _=>False) (Ψ0:=fun ch g' ob'=>ch=rR (kw ts fin n)∧g'=s.gen∧ob'=s.obj) hΦ ho (by rw[hx];exact vt hob) ?_ (fun _ _ _ h=>h.elim)
 rintro ch g' ob' ⟨rfl,rfl,rfl⟩
 exact hin.pan hob hno rfl
end
instance:Inhabited Ex:=⟨.mk 0 0 0 [] []⟩
theorem look [Inhabited α] (p:PR α):∃a m,(∃a' m',p=.ok a' m')→p=.ok a m:=by
 cases p with
 |ok a m=>exact⟨a,m,fun _=>rfl⟩
 |no m=>exact⟨default,0,fun⟨_,_,h⟩=>by cases h⟩
theorem Ky (p:PR α) {G:α→Prop} (a0:α) (h0:G a0) (h1:∀a m,p=.ok a m→G a):∃a m,G a∧((∃a' m',p=.ok a' m')→p=.ok a m):=by
 cases p with
 |ok a m=>exact⟨a,m,h1 a m rfl,fun _=>rfl⟩
 |no m=>exact⟨a0,0,h0,fun⟨_,_,h⟩=>by cases h⟩
theorem Ih (s:Str):(Src.uB s).2.2≤9:=by
 have h:∀(c:Prop) [Decidable c] (x y:Int×Int×Nat),x.2.2≤9→y.2.2≤9→(if c then x else y).2.2≤9:=fun c _ x y hx hy=>by split <;> assumption
 unfold Src.uB
 repeat (refine h _ _ _ (by decide) ?_)
 decide
theorem EE:(Src.uB []).2.2=0:=a8
mutual
def exD:Ex→List D
 |.mk kind op num name kids=>[.int .i64 kind,.int .i64 op,.int .u32 num,.str name,.sl (qz kids)]
def qz:List Ex→List (List D)
 |[]=>[]
 |e::l=>exD e::qz l
end
theorem aZ:∀l:List Ex,qz l=l.map exD
 |[]=>by simp[qz]
 |e::l=>by simp[qz,aZ l]
theorem cR (e:Ex):(exD e).length=5:=by cases e;simp[exD]
def exV (e:Ex):AV:=.agg ((exD e).map .d)
def jd (l:List Ex):AV:=.one (.d (.sl (l.map exD)))
def exC (l:List Ex):List C:=l.flatMap fun a=>(exD a).map .d
theorem Ii (l:List Ex):(exC l).length=l.length*5:=by
 induction l with
 |nil=>rfl
 |cons a l ih=>simp only[exC,B4,j4,j5,cR,j6] at ih ⊢;omega
theorem mP (e:Ex):exC [e]=(exD e).map .d:=by simp[exC]
theorem Ij (l m:List Ex):exC (l++m)=exC l++exC m:=by simp[exC]
theorem wQ{s:St}{a b c d:D}{c5:C}{x5:D} (h:fc (B≤·) s c5 x5):eE B s [.agg [.d a,.d b,.d c,.d d,c5]] [.agg [.d a,.d b,.d c,.d d,.d x5]]:=
 ⟨_,_,rfl,.agg (xs:=[a,b,c,d,x5]) rfl (fun i e he=>by
  match i,he with
  |0,he=>cases he;exact⟨_,rfl,.d _⟩
  |1,he=>cases he;exact⟨_,rfl,.d _⟩
  |2,he=>cases he;exact⟨_,rfl,.d _⟩
  |3,he=>cases he;exact⟨_,rfl,.d _⟩
  | 4,he=>cases he;exact⟨_,rfl,h⟩),rfl⟩
theorem mQ {B id g n:Nat}{s:St}{l:List Ex} (hid:B≤id) (hg:s.gen id=g) (ho:s.obj id=some (exC l)) (hn:l.length=n):fc (B≤·) s (.osl id g 5 0 n) (.sl (qz l)):=by
 rw[aZ]
 exact ep hid hg l exD ho rfl (fun a _=>cR a) hn
end
end
section
attribute [local congr] Go.Am.ite_cc
open Go Go.Am Go.Asm
open Go.Src (PR bO ap takeN bt Ex Stm cw fW eH fb fX)
structure ExK (ts:List Src.Tok) (fin k:Nat):Prop where
 expr:∀(least n:Nat),1≤least→least≤100→n≤ts.length→4*(ts.length-n)+3≤k→ew 177 [iv .i64 least] ts n fin (cw ts k least n) exV
 atom:∀(n:Nat),n≤ts.length→4*(ts.length-n)+2≤k→ew 202 [] ts n fin (eH ts k n) exV
 args:∀(n:Nat),n≤ts.length→4*(ts.length-n)+4≤k→ew 204 [] ts n fin (fb ts k n) jd
theorem Mb {ts:List Src.Tok}{fin k n:Nat} (hl:ts.length≤100000) (ih:ExK ts fin k) (hnl:n≤ts.length) (hk:4*(ts.length-n)+2≤k+1):ew 202 [] ts n fin (eH ts (k+1) n) exV:=by
 intro B g ob hB hf ho
 refine hdM B [125] Tryz.func202 rfl [.cell 2 224] XQ hf fun b₀ β0 s0 w0=>?_
 have n1:=nlo hB
 have n2:=nhi hB
 have hin:InF B g ob g ob:=InF.refl
 have hf1:=hf
 obtain⟨p,hp⟩:∃p,eH ts (k+1) n=p:=⟨_,rfl⟩
 rw[hp]
 rw[eH] at hp
 simp only[go_sem,n1,n2]
 refine uc ts n fin aa rfl XN XW ?_
 by_cases h2:bO ts n=2
 ·rw[if_pos h2] at hp
  have h2i:(bO ts n:Int)=2:=a6
  simp only[go_sem,h2i]
  refine ax aa rfl (mm ts n fin 2 a6 a8) XO (B+57) a6 (fi hf1) XW (InF.go hin) (fun m h=>by rw[←hp,h];rfl) ?_
  intro t m ht
  rw[ht,PR.bind_ok] at hp
  unfold lp jJ
  simp only[go_sem,n1,n2]
  refine⟨_,ab.refl _,?_⟩
  simp only[go_sem,n1,n2]
  exact InF.ret (n:=m) (a:=.mk 1 0 t.num [] []) (InF.go hin) XN hp.symm (wQ .nil) (by simp[pack,exV,exD,qz])
 rw[if_neg h2] at hp
 have h2i:¬(bO ts n:Int)=2:=a6
 simp only[go_sem,h2i]
 refine bM ts n fin [103,101,116] aa rfl XN (B+57) a6 (fi hf1) XW a6 (fun h=>?_) (fun h=>?_)
 ·rw[if_pos h] at hp
  have hlt:=Src.ck h a7
  simp only[go_sem,n1,n2]
  refine bw ts (n+1) fin aa rfl [[40],[41]] (B+17) XO (B+57) a6 (fi hf1) XN XQ a6 a6 XV (InF.go hin) (fun m h=>by rw[←hp,show Src.jQ=[40] from rfl,show Src.ir=[41] from rfl,h];rfl) ?_
  intro m hm
  rw[show Src.jQ=[40] from rfl,show Src.ir=[41] from rfl,hm,PR.bind_ok] at hp
  simp only[go_sem,n1,n2]
  refine⟨_,ab.refl _,?_⟩
  simp only[go_sem,n1,n2]
  exact InF.ret (n:=m) (a:=.mk 5 0 0 [] []) (InF.go hin) XN hp.symm (wQ .nil) (by simp[pack,exV,exD,qz])
 rw[if_neg h] at hp
 simp only[go_sem,n1,n2]
 refine bM ts n fin [40] aa rfl XN (B+57) a6 (fi hf1) XW a6 (fun h=>?_) (fun h=>?_)
 ·rw[if_pos (show ap ts n=Src.jQ from h)] at hp
  have hlt:=Src.ck h a7
  simp only[go_sem,n1,n2]
  refine ax aa rfl (ih.expr 1 (n+1) a6 a6 a6 a6) XO (B+57) a6 (fi hf1) XN (InF.go hin) (fun m h=>by rw[←hp,h];rfl) ?_
  intro e m he
  rw[he,PR.bind_ok] at hp
  have hmn:=Src.fv k 1 (n+1) e m he
  obtain⟨ek,eo,en,es,ekd⟩:=e
  simp only[go_sem,n1,n2,exV,exD]
  refine bw ts m fin aa rfl [[41]] (B+26) XO (B+57) a6 (fi hf1) XN XQ a6 a6 XV (InF.go hin) (fun m h=>by rw[←hp,show Src.ir=[41] from rfl,h];rfl) ?_
  intro m2 hm
  rw[show Src.ir=[41] from rfl,hm,PR.bind_ok] at hp
  simp only[go_sem,n1,n2]
  refine⟨_,ab.refl _,?_⟩
  simp only[go_sem,n1,n2]
  exact InF.ret (n:=m2) (a:=.mk ek eo en es ekd) (InF.go hin) XN hp.symm (wQ (.d _)) Y7
 rw[if_neg (show ¬ap ts n=Src.jQ from h)] at hp
 simp only[go_sem,n1,n2]
 refine bM ts n fin [33] aa rfl XN (B+57) a6 (fi hf1) XW a6 (fun h=>?_) (fun h=>?_)
 ·rw[if_pos h] at hp
  have hlt:=Src.ck h a7
  simp only[go_sem,n1,n2]
  refine ax aa rfl (ih.atom (n+1) a6 a6) XO (B+57) a6 (fi hf1) XN (InF.go hin) (fun m h=>by rw[←hp,h];rfl) ?_
  intro e m he
  rw[he,PR.bind_ok] at hp
  simp only[go_sem,n1,n2,exV,cR,j5]
  refine⟨_,ab.refl _,?_⟩
  simp only[go_sem,n1,n2]
  exact InF.ret (n:=m) (a:=.mk 7 0 0 [] [e]) (InF.go hin) XN hp.symm (wQ (mQ (l:=[e]) a6 XN YL rfl)) Y7
 rw[if_neg h] at hp
 simp only[go_sem,n1,n2]
 refine ax aa rfl (mm ts n fin 1 a6 a8) XO (B+57) a6 (fi hf1) XW (InF.go hin) (fun m h=>by rw[←hp,h];rfl) ?_
 intro t m ht
 rw[ht,PR.bind_ok] at hp
 have hm1:=Src.iM t m ht
 have hm2:=Src.eZ t m ht
 unfold lp jJ
 simp only[go_sem,n1,n2]
 refine bM ts m fin [91] aa rfl XN (B+57) a6 (fi hf1) XN a6 (fun h=>?_) (fun h=>?_)
 ·rw[if_pos h] at hp
  have hlt:=Src.ck h a7
  simp only[go_sem,n1,n2]
  refine ax aa rfl (ih.expr 1 (m+1) a6 a6 a6 a6) XO (B+57) a6 (fi hf1) XN (InF.go hin) (fun m h=>by rw[←hp,h];rfl) ?_
  intro e m2 he
  rw[he,PR.bind_ok] at hp
  have hmn:=Src.fv k 1 (m+1) e m2 he
  simp only[go_sem,n1,n2,exV,cR,j5]
  refine bw ts m2 fin aa rfl [[93]] (B+48) XO (B+57) a6 (fi hf1) XN XQ a6 a6 XV (InF.go hin) (fun m h=>by rw[←hp,h];rfl) ?_
  intro m3 hm
  rw[hm,PR.bind_ok] at hp
  simp only[go_sem,n1,n2]
  refine⟨_,ab.refl _,?_⟩
  simp only[go_sem,n1,n2]
  exact InF.ret (n:=m3) (a:=.mk 3 0 0 t.text [e]) (InF.go hin) XN hp.symm (wQ (mQ (l:=[e]) a6 XN YL rfl)) Y7
 rw[if_neg h] at hp
 simp only[go_sem,n1,n2]
 refine bM ts m fin [40] aa rfl XN (B+57) a6 (fi hf1) XN a6 (fun h=>?_) (fun h=>?_)
 ·rw[if_pos (show ap ts m=Src.jQ from h)] at hp
  have hlt:=Src.ck h a7
  simp only[go_sem,n1,n2]
  refine ax aa rfl (ih.args (m+1) a6 a6) XO (B+57) a6 (fi hf1) XN (InF.go hin) (fun m h=>by rw[←hp,h];rfl) ?_
  intro l m2 he
  rw[he,PR.bind_ok] at hp
  simp only[go_sem,n1,n2,jd]
  refine⟨_,ab.refl _,?_⟩
  simp only[go_sem,n1,n2]
  exact InF.ret (n:=m2) (a:=.mk 4 0 0 t.text l) (InF.go hin) XN hp.symm (wQ (.d _)) (by simp[pack,exV,exD,aZ])
 rw[if_neg (show ¬ap ts m=Src.jQ from h)] at hp
 simp only[go_sem,n1,n2]
 refine⟨_,ab.refl _,?_⟩
 simp only[go_sem,n1,n2]
 exact InF.ret (n:=m) (a:=.mk 2 0 0 t.text []) (InF.go hin) XN hp.symm (wQ .nil) (by simp[pack,exV,exD,qz])
theorem AF {B id g n:Nat}{s:St}{l:List Ex} (hid:B≤id) (hg:s.gen id=g) (ho:s.obj id=some (exC l)) (hn:l.length=n):eE B s [.one (.osl id g 5 0 n)] [jd l]:=
 ⟨_,_,rfl,.one (by have:=mQ (B:=B) hid hg ho hn;rwa [aZ] at this),rfl⟩
theorem Mc {ts:List Src.Tok}{fin k n:Nat} (hl:ts.length≤100000) (ih:∀j,j≤k→ExK ts fin j) (hnl:n≤ts.length) (hk:4*(ts.length-n)+4≤k+1):ew 204 [] ts n fin (fb ts (k+1) n) jd:=by
 intro B g ob hB hf ho
 refine hdM B [125] Tryz.func204 rfl [.tmp 2] XQ hf fun b₀ β0 s0 w0=>?_
 have n1:=nlo hB
 have n2:=nhi hB
 have hin:InF B g ob g ob:=InF.refl
 have hf1:=hf
 obtain⟨p,hp⟩:∃p,fb ts (k+1) n=p:=⟨_,rfl⟩
 rw[hp]
 rw[fb] at hp
 simp only[go_sem,n1,n2]
 refine bM ts n fin [41] aa rfl XN (B+20) a6 (fi hf1) XW a6 (fun h=>?_) (fun h=>?_)
 ·rw[if_pos (show ap ts n=Src.ir from h)] at hp
  simp only[go_sem,n1,n2]
  refine⟨_,ab.refl _,?_⟩
  simp only[go_sem,n1,n2]
  exact InF.ret (n:=n+1) (a:=[]) (rs:=[.one (.d (.sl []))]) (InF.go hin) XN hp.symm ⟨_,_,rfl,.one .nil,rfl⟩ rfl
 rw[if_neg (show ¬ap ts n=Src.ir from h)] at hp
 simp only[go_sem,n1,n2]
 refine ax aa rfl ((ih k (l0 _)).expr 1 n a6 a6 a6 a6) XO (B+20) a6 (fi hf1) XW (InF.go hin) (fun m h=>by rw[←hp,h];rfl) ?_
 intro e m he
 rw[he,PR.bind_ok] at hp
 have hm1:=Src.fv k 1 n e m he
 have hm2:=Src.ea k 1 n e m he
 simp only[go_sem,n1,n2,exV,cR,j5]
 refine ai (fun z st=>∃(j n':Nat) (acc:List Ex),z+n'=ts.length∧acc.length≤n'∧4*(ts.length-n')+2≤j∧j≤k∧st.f 0=.one (.ptr 125 (g 125) 0)∧st.f 3=.one (.osl (B+8) (st.gen (B+8)) 5 0 acc.length)∧st.obj (B+8)=some (exC acc)∧st.obj 125=some (rdC ts n' fin)∧InF B g ob st.gen st.obj∧(∀i,B+20≤i→st.obj i=none)∧fX ts j acc n'=p) (ts.length-m) ?_ ?_
 ·refine⟨k,m,[e],a6,by simp;omega,a6,l0 _,?_⟩
  simp only[go_sem,n1,n2,mP]
  exact⟨(InF.go hin),(fi hf1),hp⟩
 clear hf1 hin hp he
 rintro z f g1 ob1 ⟨j,n',acc,hz,hacc,hj,hjk,q0,q3,o8,o125,hin,hf1,hp⟩
 simp only at q0 q3 o8 o125 hin hf1
 obtain⟨j,rfl⟩:∃i,j=i+1:=⟨j-1,a6⟩
 rw[fX] at hp
 have hg:=hin.rd
 simp only[go_sem,q0]
 refine bM ts n' fin [44] aa rfl Yl (B+20) a6 (fi hf1) XY a6 (fun h=>?_) (fun h=>?_)
 ·rw[if_pos (show ap ts n'=Src.vO from h)] at hp
  have hlt:=Src.ck h a7
  simp only[go_sem,n1,n2,q0,q3]
  refine ax aa rfl ((ih j a6).expr 1 (n'+1) a6 a6 a6 a6) XZ (B+20) a6 (fi hf1) XN (InF.go hin) (fun m h=>by rw[←hp,h];rfl) ?_
  intro e m he
  rw[he,PR.bind_ok] at hp
  have hm1:=Src.fv j 1 (n'+1) e m he
  have hm2:=Src.ea j 1 (n'+1) e m he
  have hcl:=Ii acc
  simp only[go_sem,n1,n2,exV,cR,j5,q0,q3,o8,hcl,aC]
  refine⟨a6,⟨a8,a6⟩,?_⟩
  refine ae (ts.length-m) a6 ⟨j,m,acc++[e],a6,by rw[j4];simp;omega,a6,a6,?_⟩
  simp only[go_sem,n1,n2,q0,q3,j4]
  refine⟨?_,(InF.go hin),(fi hf1),hp⟩
  rw[l5 a6,Ij,mP,l5 (by simp[cR])]
 ·rw[if_neg (show ¬ap ts n'=Src.vO from h)] at hp
  simp only[go_sem,n1,n2,q0,q3]
  refine bw ts n' fin aa rfl [[41]] (B+17) XZ (B+20) a6 (fi hf1) XY XQ a6 a6 XV (InF.go hin) (fun m h=>by rw[←hp,show Src.ir=[41] from rfl,h];rfl) ?_
  intro m hm
  rw[show Src.ir=[41] from rfl,hm,PR.bind_ok] at hp
  simp only[go_sem,n1,n2,q0,q3]
  refine⟨_,ab.refl _,?_⟩
  simp only[go_sem,n1,n2,q3]
  exact InF.ret (n:=m) (a:=acc) (InF.go hin) XN hp.symm (AF a6 XN (by simp only[go_sem,n1,n2,o8]) rfl) rfl
section
variable {ts:List Src.Tok}
theorem Md{fin k least n:Nat} (hl:ts.length≤100000) (ih:∀j,j≤k→ExK ts fin j) (hle:1≤least) (hle2:least≤100) (hnl:n≤ts.length) (hk:4*(ts.length-n)+3≤k+1):ew 177 [iv .i64 least] ts n fin (cw ts (k+1) least n) exV:=by
 intro B g ob hB hf ho
 refine hdM B [125] Tryz.func177 rfl [.cell 4 224] XQ hf fun b₀ β0 s0 w0=>?_
 have n1:=nlo hB
 have n2:=nhi hB
 have hin:InF B g ob g ob:=InF.refl
 have hf1:=hf
 obtain⟨p,hp⟩:∃p,cw ts (k+1) least n=p:=⟨_,rfl⟩
 rw[hp]
 rw[cw] at hp
 simp only[go_sem,n1,n2]
 refine ax aa rfl ((ih k (l0 _)).atom n a6 a6) XO (B+35) a6 (fi hf1) XW (InF.go hin) (fun m h=>by rw[←hp,h];rfl) ?_
 intro e m he
 rw[he,PR.bind_ok] at hp
 have hm1:=Src.xI k n e m he
 have hm2:=Src.uE k n e m he
 obtain⟨ek,eo,en,es,ekd⟩:=e
 simp only[go_sem,n1,n2,exV,exD]
 refine ai (fun z st=>∃(j n':Nat) (left:Ex),z+n'=ts.length∧4*(ts.length-n')+2≤j∧j≤k∧st.f 0=.one (.ptr 125 (g 125) 0)∧st.f 1=iv .i64 least∧st.f 4=.one (.ptr (B+4) (st.gen (B+4)) 0)∧st.f 5=.one (.ptr (B+5) (st.gen (B+5)) 0)∧
  (∃a b c d e,st.obj (B+4)=some [a,b,c,d,e])∧st.obj (B+5)=some ((exD left).map .d)∧st.obj 125=some (rdC ts n' fin)∧InF B g ob st.gen st.obj∧(∀i,B+35≤i→st.obj i=none)∧fW ts j least left n'=p) (ts.length-m) ?_ ?_
 ·refine⟨k,m,.mk ek eo en es ekd,a6,a6,l0 _,?_⟩
  simp only[go_sem,n1,n2,exD]
  exact⟨⟨_,_,_,_,_,rfl,rfl,rfl,rfl,rfl⟩,(InF.go hin),(fi hf1),hp⟩
 clear hf1 hin hp he
 rintro z f g1 ob1 ⟨j,n',left,hz,hj,hjk,q0,q1,q4,q5,⟨a,b,c,d,e,o4⟩,o5,o125,hin,hf1,hp⟩
 simp only at q0 q1 q4 q5 o4 o5 o125 hin hf1
 obtain⟨j,rfl⟩:∃i,j=i+1:=⟨j-1,a6⟩
 rw[fW] at hp
 have hg:=hin.rd
 obtain⟨lk,lo,ln,ls,lkd⟩:=left
 simp only[exD,l7,v8] at o5
 have hsl:=Ih (ap ts n')
 simp only[go_sem,q0]
 refine BP ts n' fin aa rfl Yl (B+35) a6 (fi hf1) XY ?_
 simp only[go_sem,q0]
 refine SV rfl (by simp only[go_sem,q0];exact LZ _) ?_
 rintro _ rfl
 unfold AB
 by_cases hlt:(Src.uB (ap ts n')).2.2<least
 ·rw[if_pos hlt] at hp
  have hli:((Src.uB (ap ts n')).2.2:Int)<(least:Int):=a6
  simp only[go_sem,q0,q1,q4,q5,hli,o4,o5]
  refine⟨_,ab.refl _,?_⟩
  simp only[go_sem,q4,n1,n2]
  exact InF.ret (n:=n') (a:=.mk lk lo ln ls lkd) (InF.go hin) XY hp.symm (wQ (.d _)) Y7
 rw[if_neg hlt] at hp
 have hli:¬((Src.uB (ap ts n')).2.2:Int)<(least:Int):=a6
 have hnl':n'<ts.length:=by
  refine Src.ck rfl fun h=>?_
  rw[h,EE] at hlt
  omega
 have hw:=ah (k:=n') a6
 have hws:=ah (k:=(Src.uB (ap ts n')).2.2) a6
 unfold rdC dF at o125
 simp only[go_sem,q0,q1,q4,q5,hli,o4,o5,hg,o125,hw,n1,n2]
 obtain⟨right,m',hlook⟩:=look (cw ts j ((Src.uB (ap ts n')).2.2+1) (n'+1))
 refine jj (∃a m,cw ts j ((Src.uB (ap ts n')).2.2+1) (n'+1)=.ok a m) aB mixed aa [B+32,125] [([5],[1],[],false),([0],[],[],false),([7],[],[],false),([29],[],[],false),([28,30],[],[1],false),([27,31],[],[0],false),([6],[0,1],[],false),([33,32],[],[],true)] 2 rfl b9 rfl XQ ?_
 simp only[go_sem]
 (apply br;(case hf=>rfl);(case hg=>first|exact x6|exact⟨_,rfl,by decide,rfl⟩);(case h1=>intro fa ga oa K' hK;simp only[go_sem,q5,o5,n1,n2] at hK ⊢;exact hK))
 iterate 2 (apply br;(case hf=>rfl);(case hg=>first|exact x6|exact⟨_,rfl,by decide,rfl⟩);(case h1=>intro fa ga oa K' hK;simp only[go_sem,q0] at hK ⊢;exact hK))
 (apply br;(case hf=>rfl);(case hg=>first|exact x6|exact⟨_,rfl,by decide,rfl⟩);(case h1=>intro fa ga oa K' hK;simp only[go_sem,hws] at hK ⊢;exact hK))
 refine jk (v:=exV right) (y:=some (rdC ts m' fin)) x6 a7 (fun fa ga oa K' hK=>?_) ?_
 ·simp only[go_sem,q0] at hK ⊢
  refine ax (k:=bx K') aa rfl ((ih j a6).expr ((Src.uB (ap ts n')).2.2+1) (n'+1) a6 a6 a6 a6) Yc (B+35) a6 (fi hf1) (by simp only[go_sem,n1,n2,rdC,dF]) (InF.go hin) (fun m h=>by rw[←hp,h];rfl) ?_
  intro a2 m2 h2
  have e:=hlook ⟨_,_,h2⟩
  rw[h2] at e
  cases e
  simp only[go_sem]
  exact hK ⟨_,_,h2⟩
 (apply iD;(case hf=>rfl);(case hg=>first|exact x6|exact⟨_,rfl,by decide,rfl⟩);(case h1=>intro fa ga oa K' hK;simp only[go_sem,exV,cR,j5] at hK ⊢;exact hK))
 (apply br;(case hf=>rfl);(case hg=>first|exact x6|exact⟨_,rfl,by decide,rfl⟩);(case h1=>intro fa ga oa K' hK;simp only[go_sem,n1,n2] at hK ⊢;exact hK))
 refine jl rfl x6 ?_
 intro K' hK'
 simp only[go_sem,n1,n2]
 refine hK' _ ?_
 clear hK' K'
 intro hz'
 have e:=hlook hz'
 rw[e,PR.bind_ok] at hp
 have hm1:=Src.fv j ((Src.uB (ap ts n')).2.2+1) (n'+1) right m' e
 have hm2:=Src.ea j ((Src.uB (ap ts n')).2.2+1) (n'+1) right m' e
 simp only[go_sem,n1,n2,q5,o5,q0,q1,q4]
 refine⟨ts.length-m',_,a6,CJ (id:=B+32) (o:=B+5) (cells:=[.d (.int .i64 (Src.uB (ap ts n')).1),.d (.int .i64 (Src.uB (ap ts n')).2.1),.d (.int .u32 0),.d (.str []),.osl (B+32) (nxC (aC Tt 180+1) (g1 (B+32))) 5 0 2]) (cs:=[.d (.int .i64 (Src.uB (ap ts n')).1),.d (.int .i64 (Src.uB (ap ts n')).2.1),.d (.int .u32 0),.d (.str []),.d (.sl [exD (.mk lk lo ln ls lkd),exD right])]) XN rfl ?_,?_⟩
 ·intro i c c' hc hc'
  match i,hc,hc' with
  |0,hc,hc'=>cases hc;cases hc';exact .inl rfl
  |1,hc,hc'=>cases hc;cases hc';exact .inl rfl
  |2,hc,hc'=>cases hc;cases hc';exact .inl rfl
  |3,hc,hc'=>cases hc;cases hc';exact .inl rfl
  |4,hc,hc'=>
    cases hc;cases hc'
    refine .inr ⟨_,ep (P:=(· = B+32)) rfl ?_ [.mk lk lo ln ls lkd,right] exD (cells:=exC [.mk lk lo ln ls lkd,right]) ?_ rfl (fun a _=>cR a) rfl,rfl⟩
    ·simp only[go_sem,n1,n2]
    ·simp only[go_sem,n1,n2]
     simp[exC,exD]
 refine⟨j,m',.mk (Src.uB (ap ts n')).1 (Src.uB (ap ts n')).2.1 0 [] [.mk lk lo ln ls lkd,right],a6,a6,a6,?_⟩
 simp only[St.drop1]
 simp only[go_sem,n1,n2,q0,q1,q4,exD,qz]
 exact⟨q5,⟨_,_,_,_,_,o4⟩,(InF.go hin),(fi hf1),hp⟩
theorem BR (fin:Nat) (hl:ts.length≤100000) (k:Nat):ExK ts fin k:=by
 induction k using Nat.strongRecOn with
 |ind k ih=>
   cases k with
   |zero=>exact⟨fun _ _ _ _ _ h=>absurd h a6,fun _ _ h=>absurd h a6,fun _ _ h=>absurd h a6⟩
   |succ k=>
     exact⟨fun least n h1 h2 h3 h4=>Md hl (fun j hj=>ih j a6) h1 h2 h3 h4,fun n h1 h2=>Mb hl (ih k a6) h1 h2,fun n h1 h2=>Mc hl (fun j hj=>ih j a6) h1 h2⟩
end
end
section
attribute [local congr] Go.Am.ite_cc
open Go Go.Am Go.Asm
open Go.Src (PR bO ap takeN bt Ex Stm cw fW eH fb fX iR iu dR dN)
section
def jx (l:List Str):AV:=.one (.d (.sl (l.map fun s=>[.str s])))
theorem pv (l:List Str):(bH l).length=l.length:=j5 _
theorem EF {B id g n:Nat}{s:St}{l:List Str} (hid:B≤id) (hg:s.gen id=g) (ho:s.obj id=some (bH l)) (hn:l.length=n):eE B s [.one (.osl id g 1 0 n)] [jx l]:=
 ⟨_,_,rfl,.one (ep hid hg l (fun s=>[.str s]) ho YX (fun _ _=>rfl) hn),rfl⟩
variable {ts:List Src.Tok}{fin k n:Nat}
theorem vB (hl:ts.length≤100000) (hnl:n≤ts.length) (hk:ts.length-n+1≤k):ew 59 [] ts n fin (dR ts k n) jx:=by
 intro B g ob hB hf ho
 refine hdM B [125] Tryz.func59 rfl [.tmp 2] XQ hf fun b₀ β0 s0 w0=>?_
 have n1:=nlo hB
 have n2:=nhi hB
 have hin:InF B g ob g ob:=InF.refl
 have hf1:=hf
 obtain⟨p,hp⟩:∃p,dR ts k n=p:=⟨_,rfl⟩
 rw[hp]
 rw[dR] at hp
 simp only[go_sem,n1,n2]
 refine ax aa rfl (mm ts n fin 1 a6 a8) XO (B+17) a6 (fi hf1) XW (InF.go hin) (fun m h=>by rw[←hp,h];rfl) ?_
 intro t m ht
 rw[ht,PR.bind_ok] at hp
 have hm1:=Src.iM t m ht
 have hm2:=Src.eZ t m ht
 unfold lp jJ
 simp only[go_sem,n1,n2]
 refine ai (fun z st=>∃(j n':Nat) (acc:List Str),z+n'=ts.length∧acc.length≤n'∧ts.length-n'+1≤j∧st.f 0=.one (.ptr 125 (g 125) 0)∧st.f 3=.one (.osl (B+7) (st.gen (B+7)) 1 0 acc.length)∧st.obj (B+7)=some (bH acc)∧st.obj 125=some (rdC ts n' fin)∧InF B g ob st.gen st.obj∧(∀i,B+17≤i→st.obj i=none)∧dN ts j acc n'=p) (ts.length-m) ?_ ?_
 ·refine⟨k,m,[t.text],a6,by simp;omega,a6,?_⟩
  simp only[go_sem,n1,n2,bH]
  exact⟨(InF.go hin),(fi hf1),hp⟩
 clear hf1 hin hp
 rintro z f g1 ob1 ⟨j,n',acc,hz,hacc,hj,q0,q3,o7,o125,hin,hf1,hp⟩
 simp only at q0 q3 o7 o125 hin hf1
 obtain⟨j,rfl⟩:∃i,j=i+1:=⟨j-1,a6⟩
 rw[dN] at hp
 have hg:=hin.rd
 simp only[go_sem,q0]
 refine bM ts n' fin [44] aa rfl Yl (B+17) a6 (fi hf1) XY a6 (fun h=>?_) (fun h=>?_)
 ·rw[if_pos (show ap ts n'=Src.vO from h)] at hp
  have hlt:=Src.ck h a7
  simp only[go_sem,n1,n2,q0,q3]
  refine ax aa rfl (mm ts (n'+1) fin 1 a6 a8) XZ (B+17) a6 (fi hf1) XN (InF.go hin) (fun m h=>by rw[←hp,h];rfl) ?_
  intro t m ht
  rw[ht,PR.bind_ok] at hp
  have hm1:=Src.iM t m ht
  have hm2:=Src.eZ t m ht
  have hcl:=pv acc
  unfold lp jJ
  simp only[go_sem,n1,n2,q0,q3,o7,hcl,aC]
  refine⟨a6,⟨a8,a6⟩,?_⟩
  refine ae (ts.length-m) a6 ⟨j,m,acc++[t.text],a6,by rw[j4];simp;omega,a6,?_⟩
  simp only[go_sem,n1,n2,q0,q3,j4]
  refine⟨?_,(InF.go hin),(fi hf1),hp⟩
  rw[l5 a6]
  simp[bH]
 ·rw[if_neg (show ¬ap ts n'=Src.vO from h)] at hp
  simp only[go_sem,n1,n2,q0,q3]
  refine⟨_,ab.refl _,?_⟩
  simp only[go_sem,n1,n2,q3]
  exact InF.ret (n:=n') (a:=acc) (InF.go hin) XY hp.symm (EF a6 XN (by simp only[go_sem,n1,n2,o7]) rfl) rfl
theorem vC (hl:ts.length≤100000) (hnl:n≤ts.length) (hk:4*(ts.length-n)+3≤k):ew 176 [] ts n fin (iR ts k n) jd:=by
 intro B g ob hB hf ho
 refine hdM B [125] Tryz.func176 rfl [.tmp 2] XQ hf fun b₀ β0 s0 w0=>?_
 have n1:=nlo hB
 have n2:=nhi hB
 have hin:InF B g ob g ob:=InF.refl
 have hf1:=hf
 obtain⟨p,hp⟩:∃p,iR ts k n=p:=⟨_,rfl⟩
 rw[hp]
 rw[iR] at hp
 simp only[go_sem,n1,n2]
 refine bw ts n fin aa rfl [[40]] (B+5) XO (B+14) a6 (fi hf1) XW XQ a6 a6 XV (InF.go hin) (fun m h=>by rw[←hp,show Src.jQ=[40] from rfl,h];rfl) ?_
 intro m hm
 rw[show Src.jQ=[40] from rfl,hm,PR.bind_ok] at hp
 have hm1:=Src.bX (ts:=ts) a7 () m hm
 have hm2:=Src.bW () m hm
 simp only[go_sem,n1,n2]
 refine ax aa rfl ((BR fin hl k).expr 1 m a6 a6 a6 a6) XO (B+14) a6 (fi hf1) XN (InF.go hin) (fun m h=>by rw[←hp,h];rfl) ?_
 intro e m2 he
 rw[he,PR.bind_ok] at hp
 have hm3:=Src.fv k 1 m e m2 he
 obtain⟨ek,eo,en,es,ekd⟩:=e
 simp only[go_sem,n1,n2,exV,exD]
 refine bw ts m2 fin aa rfl [[41]] (B+10) XO (B+14) a6 (fi hf1) XN XQ a6 a6 XV (InF.go hin) (fun m h=>by rw[←hp,show Src.ir=[41] from rfl,h];rfl) ?_
 intro m3 hm
 rw[show Src.ir=[41] from rfl,hm,PR.bind_ok] at hp
 simp only[go_sem,n1,n2]
 refine⟨_,ab.refl _,?_⟩
 simp only[go_sem,n1,n2]
 exact InF.ret (n:=m3) (a:=[.mk ek eo en es ekd]) (InF.go hin) XN hp.symm (AF a6 XN (by simp only[go_sem,n1,n2];simp[exC,exD]) rfl) rfl
end
end
section
attribute [local congr] Go.Am.ite_cc
open Go Go.Am Go.Asm
open Go.Src (PR bO ap takeN bt Ex Stm cw fW eH fb fX iR iu dR ja gX cN)
mutual
def smD:Stm→List D
 |.mk kind name e th el=>[.int .i64 kind,.str name,.sl (qz e),.sl (qA th),.sl (qA el)]
def qA:List Stm→List (List D)
 |[]=>[]
 |s::l=>smD s::qA l
end
theorem ft:∀l:List Stm,qA l=l.map smD
 |[]=>by simp[qA]
 |e::l=>by simp[qA,ft l]
theorem jO (e:Stm):(smD e).length=5:=by cases e;simp[smD]
def smV (e:Stm):AV:=.agg ((smD e).map .d)
def jy (l:List Stm):AV:=.one (.d (.sl (l.map smD)))
def smC (l:List Stm):List C:=l.flatMap fun a=>(smD a).map .d
theorem Ik (l:List Stm):(smC l).length=l.length*5:=by
 induction l with
 |nil=>rfl
 |cons a l ih=>simp only[smC,B4,j4,j5,jO,j6] at ih ⊢;omega
theorem Il (e:Stm):smC [e]=(smD e).map .d:=by simp[smC]
theorem Im (l m:List Stm):smC (l++m)=smC l++smC m:=by simp[smC]
theorem Io {B id g n:Nat}{s:St}{l:List Stm} (hid:B≤id) (hg:s.gen id=g) (ho:s.obj id=some (smC l)) (hn:l.length=n):eE B s [.one (.osl id g 5 0 n)] [jy l]:=
 ⟨_,_,rfl,.one (ep hid hg l smD ho rfl (fun a _=>jO a) hn),rfl⟩
theorem nk {B:Nat}{s:St}{a b:D}{c3 c4 c5:C}{x3 x4 x5:D} (h3:fc (B≤·) s c3 x3) (h4:fc (B≤·) s c4 x4) (h5:fc (B≤·) s c5 x5):eE B s [.agg [.d a,.d b,c3,c4,c5]] [.agg [.d a,.d b,.d x3,.d x4,.d x5]]:=
 ⟨_,_,rfl,.agg (xs:=[a,b,x3,x4,x5]) rfl (fun i e he=>by
  match i,he with
  |0,he=>cases he;exact⟨_,rfl,.d _⟩
  |1,he=>cases he;exact⟨_,rfl,.d _⟩
  |2,he=>cases he;exact⟨_,rfl,h3⟩
  |3,he=>cases he;exact⟨_,rfl,h4⟩
  | 4,he=>cases he;exact⟨_,rfl,h5⟩),rfl⟩
theorem Ip {ts:List Src.Tok}{fin k n:Nat} (hl:ts.length≤100000) (hnl:n≤ts.length) (hk:4*(ts.length-n)+3≤k):ew 179 [] ts n fin (iu ts k n) smV:=by
 intro B g ob hB hf ho
 refine hdM B [125] Tryz.func179 rfl [.cell 2 182] XQ hf fun b₀ β0 s0 w0=>?_
 have n1:=nlo hB
 have n2:=nhi hB
 have hin:InF B g ob g ob:=InF.refl
 have hf1:=hf
 obtain⟨p,hp⟩:∃p,iu ts k n=p:=⟨_,rfl⟩
 rw[hp]
 rw[iu] at hp
 simp only[go_sem,n1,n2]
 refine ax aa rfl (mm ts n fin 1 a6 a8) XO (B+44) a6 (fi hf1) XW (InF.go hin) (fun m h=>by rw[←hp,h];rfl) ?_
 intro t m ht
 rw[ht,PR.bind_ok] at hp
 have hm1:=Src.iM t m ht
 have hm2:=Src.eZ t m ht
 unfold lp jJ
 simp only[go_sem,n1,n2]
 refine bM ts m fin [61] aa rfl XN (B+44) a6 (fi hf1) XN a6 (fun h=>?_) (fun h=>?_)
 ·rw[if_pos h] at hp
  have hlt:=Src.ck h a7
  simp only[go_sem,n1,n2]
  refine ax aa rfl ((BR fin hl k).expr 1 (m+1) a6 a6 a6 a6) XO (B+44) a6 (fi hf1) XN (InF.go hin) (fun m h=>by rw[←hp,h];rfl) ?_
  intro e m2 he
  rw[he,PR.bind_ok,PR.bind_ok] at hp
  have hm3:=Src.fv k 1 (m+1) e m2 he
  simp only[go_sem,n1,n2,exV,cR,j5]
  refine bw ts m2 fin aa rfl [[59]] (B+41) XO (B+44) a6 (fi hf1) XN XQ a6 a6 XV (InF.go hin) (fun m h=>by rw[←hp,show Src.jR=[59] from rfl,h];rfl) ?_
  intro m3 hm
  rw[show Src.jR=[59] from rfl,hm,PR.bind_ok] at hp
  simp only[go_sem,n1,n2]
  refine⟨_,ab.refl _,?_⟩
  simp only[go_sem,n1,n2]
  exact InF.ret (n:=m3) (a:=.mk 1 t.text [e] [] []) (InF.go hin) XN hp.symm (nk (mQ (l:=[e]) a6 XN YL rfl) .nil .nil) (by simp[pack,smV,smD,qA])
 rw[if_neg h] at hp
 simp only[go_sem,n1,n2]
 refine bM ts m fin [91] aa rfl XN (B+44) a6 (fi hf1) XN a6 (fun h=>?_) (fun h=>?_)
 ·rw[if_pos h] at hp
  have hlt:=Src.ck h a7
  simp only[go_sem,n1,n2]
  refine ax aa rfl ((BR fin hl k).expr 1 (m+1) a6 a6 a6 a6) XO (B+44) a6 (fi hf1) XN (InF.go hin) (fun m h=>by rw[←hp,h];rfl) ?_
  intro e m2 he
  rw[he,PR.bind_ok] at hp
  have hm3:=Src.fv k 1 (m+1) e m2 he
  have hm3':=Src.ea k 1 (m+1) e m2 he
  obtain⟨ek,eo,en,es,ekd⟩:=e
  simp only[go_sem,n1,n2,exV,exD]
  refine bw ts m2 fin aa rfl [[93],[61]] (B+25) XO (B+44) a6 (fi hf1) XN XQ a6 a6 XV (InF.go hin) (fun m h=>by rw[←hp,h];rfl) ?_
  intro m3 hm
  rw[hm,PR.bind_ok] at hp
  have hm4:=Src.bX (ts:=ts) a7 () m3 hm
  have hm5:=Src.bW () m3 hm
  simp only[go_sem,n1,n2]
  obtain⟨right,m',hlook⟩:=look (cw ts k 1 m3)
  refine jj (∃a m,cw ts k 1 m3=.ok a m) aB mixed aa [B+31,125] [([4],[1],[],false),([0],[],[],false),([29],[],[1],false),([28,30],[],[0],false),([3],[0,1],[],false),([32,31],[],[],true)] 2 rfl b9 rfl XQ ?_
  simp only[go_sem]
  (apply br;(case hf=>rfl);(case hg=>first|exact x6|exact⟨_,rfl,by decide,rfl⟩);(case h1=>intro fa ga oa K' hK;simp only[go_sem,n1,n2] at hK ⊢;exact hK))
  (apply br;(case hf=>rfl);(case hg=>first|exact x6|exact⟨_,rfl,by decide,rfl⟩);(case h1=>intro fa ga oa K' hK;simp only[go_sem] at hK ⊢;exact hK))
  refine jk (v:=exV right) (y:=some (rdC ts m' fin)) x6 a7 (fun fa ga oa K' hK=>?_) ?_
  ·simp only[go_sem,n1,n2] at hK ⊢
   refine ax (k:=bx K') aa rfl ((BR fin hl k).expr 1 m3 a6 a6 a6 a6) XO (B+44) a6 (fi hf1) XN (InF.go hin) (fun m h=>by rw[←hp,h];rfl) ?_
   exact VA
  (apply iD;(case hf=>rfl);(case hg=>first|exact x6|exact⟨_,rfl,by decide,rfl⟩);(case h1=>intro fa ga oa K' hK;simp only[go_sem,exV,cR,j5,n1,n2] at hK ⊢;exact hK))
  (apply br;(case hf=>rfl);(case hg=>first|exact x6|exact⟨_,rfl,by decide,rfl⟩);(case h1=>intro fa ga oa K' hK;simp only[go_sem,n1,n2] at hK ⊢;exact hK))
  refine jl rfl x6 ?_
  intro K' hK'
  simp only[go_sem,n1,n2]
  refine hK' _ ?_
  clear hK' K'
  intro hz'
  have e:=hlook hz'
  rw[e,PR.bind_ok,PR.bind_ok] at hp
  have hm6:=Src.fv k 1 m3 right m' e
  simp only[go_sem,n1,n2]
  refine bw ts m' fin aa rfl [[59]] (B+41) XO (B+44) a6 (fi hf1) XN XQ a6 a6 XV (InF.go hin) (fun m h=>by rw[←hp,show Src.jR=[59] from rfl,h];rfl) ?_
  intro m4 hm
  rw[show Src.jR=[59] from rfl,hm,PR.bind_ok] at hp
  simp only[go_sem,n1,n2]
  refine⟨_,ab.refl _,?_⟩
  simp only[go_sem,n1,n2]
  exact InF.ret (n:=m4) (a:=.mk 2 t.text [.mk ek eo en es ekd,right] [] []) (InF.go hin) XN hp.symm (nk (mQ (l:=[.mk ek eo en es ekd,right]) a6 XN (by simp only[go_sem,n1,n2];simp[exC,exD]) rfl) .nil .nil) (by simp[pack,smV,smD,qA])
 rw[if_neg h] at hp
 simp only[go_sem,n1,n2]
 refine bM ts m fin [40] aa rfl XN (B+44) a6 (fi hf1) XN a6 (fun h=>?_) (fun h=>?_)
 ·rw[if_pos (show ap ts m=Src.jQ from h)] at hp
  have hlt:=Src.ck h a7
  simp only[go_sem,n1,n2]
  refine ax aa rfl ((BR fin hl k).args (m+1) a6 a6) XO (B+44) a6 (fi hf1) XN (InF.go hin) (fun m h=>by rw[←hp,h];rfl) ?_
  intro l m2 he
  rw[he,PR.bind_ok,PR.bind_ok] at hp
  have hm3:=Src.xJ k (m+1) l m2 he
  simp only[go_sem,n1,n2,jd]
  refine bw ts m2 fin aa rfl [[59]] (B+41) XO (B+44) a6 (fi hf1) XN XQ a6 a6 XV (InF.go hin) (fun m h=>by rw[←hp,show Src.jR=[59] from rfl,h];rfl) ?_
  intro m3 hm
  rw[show Src.jR=[59] from rfl,hm,PR.bind_ok] at hp
  simp only[go_sem,n1,n2]
  refine⟨_,ab.refl _,?_⟩
  simp only[go_sem,n1,n2]
  exact InF.ret (n:=m3) (a:=.mk 6 t.text l [] []) (InF.go hin) XN hp.symm (nk (.d _) .nil .nil) (by simp[pack,smV,smD,qA,aZ])
 rw[if_neg (show ¬ap ts m=Src.jQ from h)] at hp
 simp only[go_sem,n1,n2]
 exact BQ ts m fin aa rfl XN XN (InF.go hin) hp.symm
section
structure SmK (ts:List Src.Tok) (fin k:Nat):Prop where
 stmt:∀(n:Nat),n≤ts.length→4*(ts.length-n)+4≤k→ew 123 [] ts n fin (ja ts k n) smV
 body:∀(n:Nat),n≤ts.length→4*(ts.length-n)+6≤k→ew 178 [] ts n fin (gX ts k n) jy
 stmts:∀(n:Nat),n≤ts.length→4*(ts.length-n)+5≤k→ew 90 [] ts n fin (cN ts k [] n) jy
variable {ts:List Src.Tok}{fin k n:Nat}
theorem LP (hl:ts.length≤100000) (ih:SmK ts fin k) (hnl:n≤ts.length) (hk:4*(ts.length-n)+4≤k+1):ew 123 [] ts n fin (ja ts (k+1) n) smV:=by
 intro B g ob hB hf ho
 refine hdM B [125] Tryz.func123 rfl [.cell 2 182] XQ hf fun b₀ β0 s0 w0=>?_
 have n1:=nlo hB
 have n2:=nhi hB
 have hin:InF B g ob g ob:=InF.refl
 have hf1:=hf
 obtain⟨p,hp⟩:∃p,ja ts (k+1) n=p:=⟨_,rfl⟩
 rw[hp]
 rw[ja] at hp
 simp only[go_sem,n1,n2]
 refine bM ts n fin [112,117,116] aa rfl XN (B+55) a6 (fi hf1) XW a6 (fun h=>?_) (fun h=>?_)
 ·rw[if_pos h] at hp
  have hlt:=Src.ck h a7
  simp only[go_sem,n1,n2]
  refine ax aa rfl (vC hl (k:=k) (n:=n+1) a6 a6) XO (B+55) a6 (fi hf1) XN (InF.go hin) (fun m h=>by rw[←hp,h];rfl) ?_
  intro l m he
  rw[he,PR.bind_ok] at hp
  have hm3:=Src.pK l m he
  simp only[go_sem,n1,n2,jd]
  refine bw ts m fin aa rfl [[59]] (B+13) XO (B+55) a6 (fi hf1) XN XQ a6 a6 XV (InF.go hin) (fun m h=>by rw[←hp,show Src.jR=[59] from rfl,h];rfl) ?_
  intro m3 hm
  rw[show Src.jR=[59] from rfl,hm,PR.bind_ok] at hp
  simp only[go_sem,n1,n2]
  refine⟨_,ab.refl _,?_⟩
  simp only[go_sem,n1,n2]
  exact InF.ret (n:=m3) (a:=.mk 3 [] l [] []) (InF.go hin) XN hp.symm (nk (.d _) .nil .nil) (by simp[pack,smV,smD,qA,aZ])
 rw[if_neg h] at hp
 simp only[go_sem,n1,n2]
 refine bM ts n fin [114,101,116,117,114,110] aa rfl XN (B+55) a6 (fi hf1) XW a6 (fun h=>?_) (fun h=>?_)
 ·rw[if_pos h] at hp
  have hlt:=Src.ck h a7
  simp only[go_sem,n1,n2]
  refine bM ts (n+1) fin [59] aa rfl XN (B+55) a6 (fi hf1) XN a6 (fun h=>?_) (fun h=>?_)
  ·rw[if_pos (show ap ts (n+1)=Src.jR from h)] at hp
   simp only[go_sem,n1,n2]
   refine⟨_,ab.refl _,?_⟩
   simp only[go_sem,n1,n2]
   exact InF.ret (n:=n+2) (a:=.mk 7 [] [] [] []) (InF.go hin) XN hp.symm (nk .nil .nil .nil) (by simp[pack,smV,smD,qA,qz])
  rw[if_neg (show ¬ap ts (n+1)=Src.jR from h)] at hp
  simp only[go_sem,n1,n2]
  refine ax aa rfl ((BR fin hl k).expr 1 (n+1) a6 a6 a6 a6) XO (B+55) a6 (fi hf1) XN (InF.go hin) (fun m h=>by rw[←hp,h];rfl) ?_
  intro e m2 he
  rw[he,PR.bind_ok] at hp
  have hm3:=Src.fv k 1 (n+1) e m2 he
  simp only[go_sem,n1,n2,exV,cR,j5]
  refine bw ts m2 fin aa rfl [[59]] (B+28) XO (B+55) a6 (fi hf1) XN XQ a6 a6 XV (InF.go hin) (fun m h=>by rw[←hp,show Src.jR=[59] from rfl,h];rfl) ?_
  intro m3 hm
  rw[show Src.jR=[59] from rfl,hm,PR.bind_ok] at hp
  simp only[go_sem,n1,n2]
  refine⟨_,ab.refl _,?_⟩
  simp only[go_sem,n1,n2]
  exact InF.ret (n:=m3) (a:=.mk 7 [] [e] [] []) (InF.go hin) XN hp.symm (nk (mQ (l:=[e]) a6 XN YL rfl) .nil .nil) (by simp[pack,smV,smD,qA])
 rw[if_neg h] at hp
 simp only[go_sem,n1,n2]
 refine bM ts n fin [105,102] aa rfl XN (B+55) a6 (fi hf1) XW a6 (fun h=>?_) (fun h=>?_)
 ·rw[if_pos h] at hp
  have hlt:=Src.ck h a7
  simp only[go_sem,n1,n2]
  refine ax aa rfl (vC hl (k:=k) (n:=n+1) a6 a6) XO (B+55) a6 (fi hf1) XN (InF.go hin) (fun m h=>by rw[←hp,h];rfl) ?_
  intro l m he
  rw[he,PR.bind_ok] at hp
  have hm3:=Src.pK l m he
  have hm3':=Src.nM l m he
  simp only[go_sem,n1,n2,jd]
  refine ax aa rfl (ih.body m a6 a6) XO (B+55) a6 (fi hf1) XN (InF.go hin) (fun m h=>by rw[←hp,h];rfl) ?_
  intro th m2 he
  rw[he,PR.bind_ok] at hp
  have hm4:=Src.sH k m th m2 he
  have hm4':=Src.pJ k m th m2 he
  simp only[go_sem,n1,n2,jy]
  refine bM ts m2 fin [101,108,115,101] aa rfl XN (B+55) a6 (fi hf1) XN a6 (fun h=>?_) (fun h=>?_)
  ·rw[if_pos h] at hp
   have hlt:=Src.ck h a7
   simp only[go_sem,n1,n2]
   refine ax aa rfl (ih.body (m2+1) a6 a6) XO (B+55) a6 (fi hf1) XN (InF.go hin) (fun m h=>by rw[←hp,h];rfl) ?_
   intro el m5 he
   rw[he,PR.bind_ok] at hp
   simp only[go_sem,n1,n2,jy]
   refine⟨_,ab.refl _,?_⟩
   simp only[go_sem,n1,n2]
   exact InF.ret (n:=m5) (a:=.mk 4 [] l th el) (InF.go hin) XN hp.symm (nk (.d _) (.d _) (.d _)) Zk
  rw[if_neg h] at hp
  simp only[go_sem,n1,n2]
  refine⟨_,ab.refl _,?_⟩
  simp only[go_sem,n1,n2]
  exact InF.ret (n:=m2) (a:=.mk 4 [] l th []) (InF.go hin) XN hp.symm (nk (.d _) (.d _) .nil) Zk
 rw[if_neg h] at hp
 simp only[go_sem,n1,n2]
 refine bM ts n fin [119,104,105,108,101] aa rfl XN (B+55) a6 (fi hf1) XW a6 (fun h=>?_) (fun h=>?_)
 ·rw[if_pos h] at hp
  have hlt:=Src.ck h a7
  simp only[go_sem,n1,n2]
  refine ax aa rfl (vC hl (k:=k) (n:=n+1) a6 a6) XO (B+55) a6 (fi hf1) XN (InF.go hin) (fun m h=>by rw[←hp,h];rfl) ?_
  intro l m he
  rw[he,PR.bind_ok] at hp
  have hm3:=Src.pK l m he
  have hm3':=Src.nM l m he
  simp only[go_sem,n1,n2,jd]
  refine ax aa rfl (ih.body m a6 a6) XO (B+55) a6 (fi hf1) XN (InF.go hin) (fun m h=>by rw[←hp,h];rfl) ?_
  intro th m2 he
  rw[he,PR.bind_ok] at hp
  simp only[go_sem,n1,n2,jy]
  refine⟨_,ab.refl _,?_⟩
  simp only[go_sem,n1,n2]
  exact InF.ret (n:=m2) (a:=.mk 5 [] l th []) (InF.go hin) XN hp.symm (nk (.d _) (.d _) .nil) Zk
 rw[if_neg h] at hp
 simp only[go_sem,n1,n2]
 refine ax aa rfl (Ip hl (k:=k) (n:=n) a6 a6) XO (B+55) a6 (fi hf1) XW (InF.go hin) (fun m h=>by rw[←hp,h]) ?_
 intro e m2 he
 rw[he] at hp
 obtain⟨ek,es,e1,e2,e3⟩:=e
 simp only[go_sem,n1,n2,smV,smD]
 refine⟨_,ab.refl _,?_⟩
 simp only[go_sem,n1,n2]
 exact InF.ret (n:=m2) (a:=.mk ek es e1 e2 e3) (InF.go hin) XN hp.symm (nk (.d _) (.d _) (.d _)) (by simp[pack,smV,smD])
theorem LQ (hl:ts.length≤100000) (ih:SmK ts fin k) (hnl:n≤ts.length) (hk:4*(ts.length-n)+6≤k+1):ew 178 [] ts n fin (gX ts (k+1) n) jy:=by
 intro B g ob hB hf ho
 refine hdM B [125] Tryz.func178 rfl [.tmp 2] XQ hf fun b₀ β0 s0 w0=>?_
 have n1:=nlo hB
 have n2:=nhi hB
 have hin:InF B g ob g ob:=InF.refl
 have hf1:=hf
 obtain⟨p,hp⟩:∃p,gX ts (k+1) n=p:=⟨_,rfl⟩
 rw[hp]
 rw[gX] at hp
 simp only[go_sem,n1,n2]
 refine bw ts n fin aa rfl [[123]] (B+4) XO (B+8) a6 (fi hf1) XW XQ a6 a6 XV (InF.go hin) (fun m h=>by rw[←hp,h];rfl) ?_
 intro m hm
 rw[hm,PR.bind_ok] at hp
 have hm1:=Src.bX (ts:=ts) a7 () m hm
 have hm2:=Src.bW () m hm
 simp only[go_sem,n1,n2]
 refine ax aa rfl (ih.stmts m a6 a6) XO (B+8) a6 (fi hf1) XN (InF.go hin) (fun m h=>by rw[←hp,h]) ?_
 intro l m2 he
 rw[he] at hp
 simp only[go_sem,n1,n2,jy]
 refine⟨_,ab.refl _,?_⟩
 simp only[go_sem,n1,n2]
 exact InF.ret (n:=m2) (a:=l) (rs:=[jy l]) (InF.go hin) XN hp.symm ⟨_,_,rfl,.one (.d _),rfl⟩ rfl
theorem HI (hl:ts.length≤100000) (ih:∀j,j≤k→SmK ts fin j) (hnl:n≤ts.length) (hk:4*(ts.length-n)+5≤k+1):ew 90 [] ts n fin (cN ts (k+1) [] n) jy:=by
 intro B g ob hB hf ho
 refine hdM B [125] Tryz.func90 rfl [.tmp 2] XQ hf fun b₀ β0 s0 w0=>?_
 have n1:=nlo hB
 have n2:=nhi hB
 obtain⟨p,hp⟩:∃p,cN ts (k+1) [] n=p:=⟨_,rfl⟩
 rw[hp]
 simp only[go_sem,n1,n2]
 refine ai (fun z st=>∃(j n':Nat) (acc:List Stm),z+n'=ts.length∧acc.length≤n'∧4*(ts.length-n')+5≤j∧j≤k+1∧st.f 0=.one (.ptr 125 (g 125) 0)∧((acc=[]∧st.f 3=.one (.d .nsl))∨(st.f 3=.one (.osl (B+11) (st.gen (B+11)) 5 0 acc.length)∧st.obj (B+11)=some (smC acc)))∧st.obj 125=some (rdC ts n' fin)∧InF B g ob st.gen st.obj∧(∀i,B+13≤i→st.obj i=none)∧cN ts j acc n'=p) (ts.length-n) ?_ ?_
 ·refine⟨k+1,n,[],a6,a7,a6,l0 _,?_⟩
  simp only[go_sem,n1,n2]
  exact⟨.inl trivial,ho,InF.refl,fun i hi=>hf i a6,hp⟩
 clear hp
 rintro z f g1 ob1 ⟨j,n',acc,hz,hacc,hj,hjk,q0,q3,o125,hin,hf1,hp⟩
 simp only at q0 q3 o125 hin hf1
 obtain⟨j,rfl⟩:∃i,j=i+1:=⟨j-1,a6⟩
 rw[cN] at hp
 have hg:=hin.rd
 simp only[go_sem,q0]
 refine bM ts n' fin [125] aa rfl Yl (B+13) a6 (fi hf1) XY a6 (fun h=>?_) (fun h=>?_)
 ·rw[if_pos h] at hp
  rcases q3 with⟨rfl,q3⟩|⟨q3,o3⟩
  ·simp only[go_sem,n1,n2,q0,q3]
   refine⟨_,ab.refl _,?_⟩
   simp only[go_sem,n1,n2,q3]
   exact InF.ret (n:=n'+1) (a:=[]) (rs:=[.one (.d (.sl []))]) (InF.go hin) XN hp.symm ⟨_,_,rfl,.one .nil,rfl⟩ rfl
  ·simp only[go_sem,n1,n2,q0,q3]
   refine⟨_,ab.refl _,?_⟩
   simp only[go_sem,n1,n2,q3]
   exact InF.ret (n:=n'+1) (a:=acc) (InF.go hin) XN hp.symm (Io a6 XN (by simp only[go_sem,n1,n2,o3]) rfl) rfl
 rw[if_neg h] at hp
 have hst:=(ih j a6).stmt n' a6 a6
 rcases q3 with⟨rfl,q3⟩|⟨q3,o3⟩
 ·simp only[go_sem,n1,n2,q0,q3]
  refine ax aa rfl hst XZ (B+13) a6 (fi hf1) XY (InF.go hin) (fun m h=>by rw[←hp,h];rfl) ?_
  intro e m he
  rw[he,PR.bind_ok] at hp
  have hm1:=Src.FY j n' e m he
  have hm2:=Src.Cr j n' e m he
  simp only[go_sem,n1,n2,smV,jO,j5,q0,q3,aC]
  refine⟨⟨a8,a6⟩,?_⟩
  refine ae (ts.length-m) a6 ⟨j,m,[]++[e],a6,by simp;omega,a6,a6,?_⟩
  simp only[go_sem,n1,n2,q0,q3]
  refine⟨.inr ?_,(InF.go hin),(fi hf1),hp⟩
  rw[l5 (by simp[jO])]
  simp[smC]
 ·have hcl:=Ik acc
  simp only[go_sem,n1,n2,q0,q3]
  refine ax aa rfl hst XZ (B+13) a6 (fi hf1) XY (InF.go hin) (fun m h=>by rw[←hp,h];rfl) ?_
  intro e m he
  rw[he,PR.bind_ok] at hp
  have hm1:=Src.FY j n' e m he
  have hm2:=Src.Cr j n' e m he
  simp only[go_sem,n1,n2,smV,jO,j5,q0,q3,o3,hcl,aC]
  refine⟨a6,⟨a8,a6⟩,?_⟩
  refine ae (ts.length-m) a6 ⟨j,m,acc++[e],a6,by rw[j4];simp;omega,a6,a6,?_⟩
  simp only[go_sem,n1,n2,q0,q3,j4]
  refine⟨.inr ?_,(InF.go hin),(fi hf1),hp⟩
  rw[l5 a6,Im,Il,l5 (by simp[jO])]
theorem Ue (fin:Nat) (hl:ts.length≤100000) (k:Nat):SmK ts fin k:=by
 induction k using Nat.strongRecOn with
 |ind k ih=>
   cases k with
   |zero=>exact⟨fun _ _ h=>absurd h a6,fun _ _ h=>absurd h a6,fun _ _ h=>absurd h a6⟩
   |succ k=>exact⟨fun n h1 h2=>LP hl (ih k a6) h1 h2,fun n h1 h2=>LQ hl (ih k a6) h1 h2,fun n h1 h2=>HI hl (fun j hj=>ih j a6) h1 h2⟩
end
end
end Go.Proofs.YtgiigidgdhplfaaGreatDoor
namespace Go.Am
section
attribute [local congr] Go.Am.ite_cc
theorem ml {P:Program}{rd:Option Nat}{b₀:Bs}{Φ:St→Loc→List Deferred→World→Prop}{B0:Nat}{Ψ:fj}{B:(Exit→St→Prop)→St→Prop}{b:Box B}{Q:Exit→St→Prop}{q:Box Q}{s:St} (s₁:St) (hv:ab s s₁) (I:Nat→St→Prop) (n:Nat) (h0:I n s₁)
  (hr:∀n f g ob,I n ⟨f,g,ob⟩→B (kf (bx fun s'=>∃n' s₁,n'<n∧(spF P rd b₀ Φ B0 Ψ).vs s' s₁∧I n' s₁) q) ⟨f,g,ob⟩):qW (spF P rd b₀ Φ B0 Ψ) b q s:=
 ⟨I,⟨n,s₁,hv,h0⟩,fun n s hs=>hr n s.f s.gen s.obj hs⟩
end
end Go.Am
namespace Go.Proofs.YtgiigidgdhplfaaGreatDoor
section
attribute [local congr] Go.Am.ite_cc
open Go Go.Am Go.Asm
open Go.Src (PR bO ap takeN bt Ex Stm dR cN de lL)
def fnD (f:Src.Fn):List D:=[.str f.name,.sl (f.params.map fun s=>[.str s]),.sl (f.locals.map fun s=>[.str s]),.bool f.word,.sl (f.body.map smD)]
theorem HJ (f:Src.Fn):(fnD f).length=5:=rfl
def fnV (f:Src.Fn):AV:=.agg ((fnD f).map .d)
theorem Av {P:Nat→Prop}{s:St}{id g n:Nat}{l:List Str} (hid:P id) (hg:s.gen id=g) (ho:s.obj id=some (bH l)) (hn:l.length=n):fc P s (.osl id g 1 0 n) (.sl (l.map fun s=>[.str s])):=
 ep hid hg l (fun s=>[.str s]) ho YX (fun _ _=>rfl) hn
theorem Aw (l:List Str):((l.map fun s=>([.str s]:List D)).flatten).map C.d=bH l:=by
 unfold bH
 induction l with
 |nil=>rfl
 |cons a l ih=>simpa using ih
theorem Kw {ts:List Src.Tok}{fin k n:Nat} (hl:ts.length≤100000) (hnl:n≤ts.length) (hk:4*(ts.length-n)+5≤k):ew 62 [] ts n fin (lL ts k n) fnV:=by
 intro B g ob hB hf ho
 refine hdM B [125] Tryz.func62 rfl [.cell 2 129] XQ hf fun b₀ β0 s0 w0=>?_
 have n1:=nlo hB
 have n2:=nhi hB
 have hin:InF B g ob g ob:=InF.refl
 have hf1:=hf
 obtain⟨p,hp⟩:∃p,lL ts k n=p:=⟨_,rfl⟩
 rw[hp]
 rw[lL] at hp
 simp only[go_sem,n1,n2]
 refine bw ts n fin aa rfl [[102,117,110,99]] (B+5) XO (B+44) a6 (fi hf1) XW XQ a6 a6 XV (InF.go hin) (fun m h=>by rw[←hp,h];rfl) ?_
 intro m hm
 rw[hm,PR.bind_ok] at hp
 have hm1:=Src.bX (ts:=ts) a7 () m hm
 have hm2:=Src.bW () m hm
 simp only[go_sem,n1,n2]
 refine ax aa rfl (mm ts m fin 1 a6 a8) XO (B+44) a6 (fi hf1) XN (InF.go hin) (fun m h=>by rw[←hp,h];rfl) ?_
 intro t m3 ht
 rw[ht,PR.bind_ok] at hp
 have hm3:=Src.iM t m3 ht
 have hm4:=Src.eZ t m3 ht
 unfold lp jJ
 simp only[go_sem,n1,n2]
 refine bw ts m3 fin aa rfl [[40]] (B+12) XO (B+44) a6 (fi hf1) XN XQ a6 a6 XV (InF.go hin) (fun m h=>by rw[←hp,show Src.jQ=[40] from rfl,h];rfl) ?_
 intro m5 hm
 rw[show Src.jQ=[40] from rfl,hm,PR.bind_ok] at hp
 have hm5:=Src.bX (ts:=ts) a7 () m5 hm
 have hm6:=Src.bW () m5 hm
 simp only[go_sem,n1,n2]
 refine uc ts m5 fin aa rfl XN XN ?_
 by_cases h1:bO ts m5=1
 case' pos=>
  rw[if_pos h1] at hp
  have h1i:(bO ts m5:Int)=1:=a6
  simp only[go_sem,h1i,n1,n2]
  refine ax aa rfl (vB hl (k:=k) (n:=m5) a6 a6) XO (B+44) a6 (fi hf1) XN (InF.go hin) (fun m h=>by rw[←hp,h];rfl) ?_
  intro ps m7 he
  rw[he,PR.bind_ok] at hp
  have hm7:m7≤ts.length:=by have:=Src.pM ps m7 he;omega
  have hm7':m5≤m7:=by have:=Src.sG ps m7 he;omega
  obtain⟨cx,hfx,hcx⟩:∃cx:C,(∀s:St,fc (B≤·) s cx (.sl (ps.map fun s=>[.str s])))∧cx=.d (.sl (ps.map fun s=>[D.str s])):=⟨_,fun s=>.d _,rfl⟩
  simp only[go_sem,n1,n2,jx]
  clear he h1i h1
 case' neg=>
  have h1i:¬(bO ts m5:Int)=1:=a6
  simp only[go_sem,h1i,n1,n2]
  obtain⟨ps,hps⟩:∃ps:List Str,ps=[]:=⟨_,rfl⟩
  obtain⟨m7,hm7e⟩:∃m7,m7=m5:=⟨_,rfl⟩
  have e7:(PR.ok ([]:List Str) m5)=PR.ok ps m7:=by rw[hps,hm7e]
  rw[if_neg h1,e7,PR.bind_ok] at hp
  obtain⟨cx,hfx,hcx⟩:∃cx:C,(∀s:St,fc (B≤·) s cx (.sl (ps.map fun s=>[.str s])))∧cx=.d .nsl:=⟨_,fun s=>by rw[hps];exact .nil,rfl⟩
  clear h1i h1 e7
  have hm7:m7≤ts.length:=a6
  have hm7':m5≤m7:=a6
  rw[←hm7e]
  clear hm7e hps
 all_goals
  refine bw ts m7 fin aa rfl [[41]] (B+21) XO (B+44) a6 (fi hf1) XN XQ a6 a6 XV (InF.go hin) (fun m h=>by rw[←hp,show Src.ir=[41] from rfl,h];rfl) ?_
  intro m8 hm
  rw[show Src.ir=[41] from rfl,hm,PR.bind_ok] at hp
  have hm8:=Src.bX (ts:=ts) a7 () m8 hm
  have hm8':=Src.bW () m8 hm
  simp only[go_sem,n1,n2]
  by_cases h:ap ts m8=[119,111,114,100]
  case' pos=>
   have hlt:=Src.ck h a7
   refine bM ts m8 fin [119,111,114,100] aa rfl XN (B+44) a6 (fi hf1) XN a6 (fun _=>?_) (fun h'=>absurd h h')
   obtain⟨w,hw⟩:∃w,w=true:=⟨_,rfl⟩
   obtain⟨m9,hm9⟩:∃m9,m9=m8+1:=⟨_,rfl⟩
   rw[if_pos h,E0 h,←hw,←hm9] at hp
   rw[←hm9]
   simp only[go_sem,n1,n2]
  case' neg=>
   refine bM ts m8 fin [119,111,114,100] aa rfl XN (B+44) a6 (fi hf1) XN a6 (fun h'=>absurd h' h) (fun _=>?_)
   obtain⟨w,hw⟩:∃w,w=false:=⟨_,rfl⟩
   obtain⟨m9,hm9⟩:∃m9,m9=m8:=⟨_,rfl⟩
   rw[if_neg h,y9 h,←hw,←hm9] at hp
   rw[←hm9]
   simp only[go_sem,n1,n2]
  all_goals
   clear h
   have hm9a:m9≤ts.length:=a6
   have hm9b:m8≤m9:=a6
   refine bw ts m9 fin aa rfl [[123]] (B+27) XO (B+44) a6 (fi hf1) XN XQ a6 a6 XV (InF.go hin) (fun m h=>by rw[←hp,h];rfl) ?_
   intro m10 hm
   rw[hm,PR.bind_ok] at hp
   have hm10:=Src.bX (ts:=ts) a7 () m10 hm
   have hm10':=Src.bW () m10 hm
   simp only[go_sem,n1,n2]
   refine ml _ (cA (t:=3) (o:=B+3) (b:=B+35) (j:=2) (sz:=1) (off:=0) (cells:=[.d (.str t.text),cx,.d .nsl,.d (.bool w),.d .nsl]) XN (by simp only[go_sem,n1,n2,hcx,hw]) rfl a6)
    (fun z st=>∃(j n':Nat) (acc:List Str),z+n'=ts.length∧acc.length≤n'∧ts.length-n'+1≤j∧m10≤n'∧st.f 0=.one (.ptr 125 (g 125) 0)∧st.f 2=.one (.ptr (B+2) (st.gen (B+2)) 0)∧st.f 3=.one (.ptr (B+3) (st.gen (B+3)) 0)∧(∃a b c d e,st.obj (B+2)=some [a,b,c,d,e])∧
      st.obj (B+3)=some [.d (.str t.text),cx,.osl (B+35) (st.gen (B+35)) 1 0 acc.length,.d (.bool w),.d .nsl]∧st.obj (B+35)=some (bH acc)∧st.obj 125=some (rdC ts n' fin)∧InF B g ob st.gen st.obj∧(∀i,B+44≤i→st.obj i=none)∧
      ((de ts j acc n').bind fun ls m=>(cN ts k [] m).bind fun b m=>Src.PR.ok { name:=t.text,params:=ps,locals:=ls,word:=w,body:=b } m)=p) (ts.length-m10) ?_ ?_
   ·simp only[St.claimAt]
    refine⟨k,m10,[],a6,a7,a6,l0 _,?_⟩
    simp only[go_sem,n1,n2]
    exact⟨⟨_,_,_,_,_,rfl,rfl,rfl,rfl,rfl⟩,rfl,(InF.go hin),(fi hf1),hp⟩
   clear hf1 hin hp
   rintro z f g1 ob1 ⟨j,n',acc,hz,hacc,hj,hmn,q0,q2,q3,⟨a,b,c,d,e,o2⟩,o3,o35,o125,hin,hf1,hp⟩
   simp only at q0 q2 q3 o2 o3 o35 o125 hin hf1
   obtain⟨j,rfl⟩:∃i,j=i+1:=⟨j-1,a6⟩
   rw[de] at hp
   have hg:=hin.rd
   simp only[go_sem,q0]
   refine bM ts n' fin [118,97,114] aa rfl Yl (B+44) a6 (fi hf1) XY a6 (fun h=>?_) (fun h=>?_)
   ·rw[if_pos h] at hp
    have hlt:=Src.ck h a7
    have hcl:=pv acc
    simp only[go_sem,n1,n2,q0]
    obtain⟨ls,m',hgl,hlook⟩:=Ky (dR ts j (n'+1)) (G:=fun l=>l.length≤100000) [] a7 (fun l m h=>by have:=Src.zA h;have:=Src.pM l m h;omega)
    refine jj (∃a m,dR ts j (n'+1)=.ok a m) aB mixed aa [B+35,125] [([3],[1],[],false),([31],[1],[],false),([0],[],[],false),([33],[],[1],false),([32,34],[],[0],false),([3],[0,1],[],false),([36,35],[],[],true)] 2 rfl b9 rfl XQ ?_
    simp only[go_sem]
    (apply br;(case hf=>rfl);(case hg=>first|exact x6|exact⟨_,rfl,by decide,rfl⟩);(case h1=>intro fa ga oa K' hK;simp only[go_sem,n1,n2,q3,o3] at hK ⊢;exact hK))
    (apply br;(case hf=>rfl);(case hg=>first|exact x6|exact⟨_,rfl,by decide,rfl⟩);(case h1=>intro fa ga oa K' hK;simp only[go_sem,n1,n2,q3,o3] at hK ⊢;exact hK))
    (apply br;(case hf=>rfl);(case hg=>first|exact x6|exact⟨_,rfl,by decide,rfl⟩);(case h1=>intro fa ga oa K' hK;simp only[go_sem,q0] at hK ⊢;exact hK))
    refine jk (v:=jx ls) (y:=some (rdC ts m' fin)) x6 a7 (fun fa ga oa K' hK=>?_) ?_
    ·simp only[go_sem,n1,n2] at hK ⊢
     refine ax (k:=bx K') aa rfl (vB hl (k:=j) (n:=n'+1) a6 a6) Yc (B+44) a6 (fi hf1) XN (InF.go hin) (fun m h=>by rw[←hp,h];rfl) ?_
     exact VA
    refine iD (a:=0) (v:=.one (.osl (B+35) (nxC (apC 9 (g1 (B+35)) 0) (g1 (B+35))) 1 0 (acc.length+ls.length))) (x:=nxC (apC 9 (g1 (B+35)) 0) (g1 (B+35))) (y:=some (bH (acc++ls))) rfl x6 (fun fa ga oa K' hK=>?_) ?_
    ·simp only[go_sem,n1,n2,jx,o35,hcl,aC,j5] at hK ⊢
     have e1:List.take acc.length (bH acc)++List.map C.d (List.map (fun s=>([D.str s]:List D)) ls).flatten=bH (acc++ls):=by
      rw[l5 a6,Aw]
      simp[bH]
     exact XA
    (apply br;(case hf=>rfl);(case hg=>first|exact x6|exact⟨_,rfl,by decide,rfl⟩);(case h1=>intro fa ga oa K' hK;simp only[go_sem,n1,n2,q3,o3] at hK ⊢;exact hK))
    refine jl rfl x6 ?_
    intro K' hK'
    simp only[go_sem,n1,n2,o3]
    refine hK' _ ?_
    clear hK' K'
    intro hz'
    have e:=hlook hz'
    rw[e,PR.bind_ok] at hp
    have hm1:=Src.pM ls m' e
    have hm2:=Src.sG ls m' e
    have hm3:=Src.zA e
    simp only[go_sem,n1,n2,q0]
    refine bw ts m' fin aa rfl [[59]] (B+38) Yc (B+44) a6 (fi hf1) XN XQ a6 a6 XV (InF.go hin) (fun m h=>by rw[←hp,show Src.jR=[59] from rfl,h];rfl) ?_
    intro m4 hm
    rw[show Src.jR=[59] from rfl,hm,PR.bind_ok] at hp
    have hm4:=Src.bX (ts:=ts) a7 () m4 hm
    have hm5:=Src.bW () m4 hm
    simp only[go_sem,n1,n2]
    refine ae (ts.length-m4) a6 ⟨j,m4,acc++ls,a6,by rw[j4];omega,a6,a6,?_⟩
    simp only[go_sem,n1,n2,q0,q2,q3,j4]
    exact⟨⟨_,_,_,_,_,o2⟩,(InF.go hin),(fi hf1),hp⟩
   ·rw[if_neg h,PR.bind_ok] at hp
    simp only[go_sem,n1,n2,q0]
    refine ax aa rfl ((Ue fin hl k).stmts n' a6 a6) XZ (B+44) a6 (fi hf1) XY (InF.go hin) (fun m h=>by rw[←hp,h];rfl) ?_
    intro bd m4 he
    rw[he,PR.bind_ok] at hp
    simp only[go_sem,n1,n2,q2,q3,o2,o3,jy]
    refine⟨_,ab.refl _,?_⟩
    simp only[go_sem,n1,n2,q2]
    refine InF.ret (n:=m4) (a:=⟨t.text,ps,acc,w,bd⟩) (rs:=[.agg [.d (.str t.text),.d (.sl (ps.map fun s=>[.str s])),.d (.sl (acc.map fun s=>[.str s])),.d (.bool w),.d (.sl (bd.map smD))]]) (InF.go hin) XN hp.symm ?_ rfl
    exact⟨_,_,rfl,.agg (xs:=[.str t.text,.sl (ps.map fun s=>[.str s]),.sl (acc.map fun s=>[.str s]),.bool w,.sl (bd.map smD)]) rfl (fun i e he=>by
     match i,he with
     |0,he=>cases he;exact⟨_,rfl,.d _⟩
     |1,he=>cases he;exact⟨_,rfl,hfx _⟩
     |2,he=>cases he;exact⟨_,rfl,Av a6 XN (by simp only[go_sem,n1,n2,o35]) rfl⟩
     |3,he=>cases he;exact⟨_,rfl,.d _⟩
     | 4,he=>cases he;exact⟨_,rfl,.d _⟩),rfl⟩
end
section
attribute [local congr] Go.Am.ite_cc
open Go Go.Am Go.Asm
open Go.Src (PR bO ap takeN bt Ex Stm dR cN de lL lE lF lG)
section
def arD (a:Str×Int):List D:=[.str a.1,.int .i64 a.2]
def wN (l:List (Str×Int)):List C:=l.flatMap fun a=>(arD a).map .d
theorem Et (l:List (Str×Int)):(wN l).length=l.length*2:=by
 induction l with
 |nil=>rfl
 |cons a l ih=>simp only[wN,B4,j4,j5,arD,j6,j7] at ih ⊢;omega
def fnC (l:List Src.Fn):List C:=l.flatMap fun a=>(fnD a).map .d
theorem HK (l:List Src.Fn):(fnC l).length=l.length*5:=by
 induction l with
 |nil=>rfl
 |cons a l ih=>simp only[fnC,B4,j4,j5,HJ,j6] at ih ⊢;omega
theorem Ax (f:Src.Fn):fnC [f]=(fnD f).map .d:=by simp[fnC]
theorem HL (l m:List Src.Fn):fnC (l++m)=fnC l++fnC m:=by simp[fnC]
def iX (p:Src.Prog):List D:=[.sl (p.vars.map fun s=>[.str s]),.sl (p.arrays.map arD),.sl (p.funcs.map fnD)]
def eF (p:Src.Prog):AV:=.agg ((iX p).map .d)
variable {P:Nat→Prop}{id g n:Nat}
theorem LR{s:St}{l:List (Str×Int)} (hid:P id) (hg:s.gen id=g) (ho:s.obj id=some (wN l)) (hn:l.length=n):fc P s (.osl id g 2 0 n) (.sl (l.map arD)):=
 ep hid hg l arD ho rfl (fun _ _=>rfl) hn
theorem Rl{s:St}{l:List Src.Fn} (hid:P id) (hg:s.gen id=g) (ho:s.obj id=some (fnC l)) (hn:l.length=n):fc P s (.osl id g 5 0 n) (.sl (l.map fnD)):=
 ep hid hg l fnD ho rfl (fun _ _=>rfl) hn
instance:Inhabited Src.Fn:=⟨⟨[],[],[],false,[]⟩⟩
theorem LS {ts:List Src.Tok}{fin k:Nat} (hl:ts.length≤100000) (hnum:∀t∈ts,t.num≤4294967295) (hk:4*ts.length+7≤k):ew 35 [] ts 0 fin (lG ts k 0) eF:=by
 intro B g ob hB hf ho
 refine hdM B [125] Tryz.func35 rfl [.cell 2 45] XQ hf fun b₀ β0 s0 w0=>?_
 have n1:=nlo hB
 have n2:=nhi hB
 have hin:InF B g ob g ob:=InF.refl
 have hf1:=hf
 obtain⟨p,hp⟩:∃p,lG ts k 0=p:=⟨_,rfl⟩
 rw[hp]
 rw[lG] at hp
 simp only[go_sem,n1,n2]
 refine ml _ (((cA (t:=3) (o:=B+3) (b:=B+12) (j:=0) (sz:=1) (off:=0) (cells:=[.d .nsl,.d .nsl,.d .nsl]) XN XN rfl a6).trans
   (cA (t:=3) (o:=B+3) (b:=B+32) (j:=1) (sz:=2) (off:=0) (cells:=[.osl (B+12) (g (B+12)+1) 1 0 0,.d .nsl,.d .nsl]) Yu Yu rfl a6)).trans
   (cA (t:=3) (o:=B+3) (b:=B+45) (j:=2) (sz:=5) (off:=0) (cells:=[.osl (B+12) (g (B+12)+1) 1 0 0,.osl (B+32) (g (B+32)+1) 2 0 0,.d .nsl]) Yu Yu rfl a6))
  (fun z st=>∃(j n':Nat) (vs:List Str) (ars:List (Str×Int)),z+n'=ts.length∧vs.length≤n'∧ars.length≤n'∧ts.length-n'+1≤j∧st.f 0=.one (.ptr 125 (g 125) 0)∧st.f 2=.one (.ptr (B+2) (st.gen (B+2)) 0)∧st.f 3=.one (.ptr (B+3) (st.gen (B+3)) 0)∧(∃a b c,st.obj (B+2)=some [a,b,c])∧
    st.obj (B+3)=some [.osl (B+12) (st.gen (B+12)) 1 0 vs.length,.osl (B+32) (st.gen (B+32)) 2 0 ars.length,.osl (B+45) (st.gen (B+45)) 5 0 0]∧st.obj (B+12)=some (bH vs)∧st.obj (B+32)=some (wN ars)∧st.obj (B+45)=some []∧st.obj 125=some (rdC ts n' fin)∧InF B g ob st.gen st.obj∧(∀i,B+65≤i→st.obj i=none)∧
    ((lE ts j vs ars n').bind fun h n=>(lL ts k n).bind fun f n=>(lF ts k [f] n).bind fun fs n=>PR.ok (Src.Prog.mk h.1 h.2 fs) n)=p) ts.length ?_ ?_
 ·simp only[St.claimAt]
  refine⟨k,0,[],[],a6,a7,a7,a6,?_⟩
  simp only[go_sem,n1,n2]
  exact⟨⟨_,_,_,rfl,rfl,rfl⟩,rfl,rfl,ho,(InF.go hin),(fi hf1),hp⟩
 clear hf1 hin hp
 rintro z f g1 ob1 ⟨j,n',vs,ars,hz,hvs,hars,hj,q0,q2,q3,⟨a,b,c,o2⟩,o3,o12,o32,o45,o125,hin,hf1,hp⟩
 simp only at q0 q2 q3 o2 o3 o12 o32 o45 o125 hin hf1
 obtain⟨j,rfl⟩:∃i,j=i+1:=⟨j-1,a6⟩
 rw[lE] at hp
 have hg:=hin.rd
 have hcv:=pv vs
 have hca:=Et ars
 simp only[go_sem,q0]
 refine bM ts n' fin [118,97,114] aa rfl Yl (B+65) a6 (fi hf1) XY a6 (fun h=>?_) (fun h=>?_)
 ·rw[if_pos h] at hp
  have hlt:=Src.ck h a7
  simp only[go_sem,n1,n2,q0]
  obtain⟨ls,m',hgl,hlook⟩:=Ky (dR ts j (n'+1)) (G:=fun l=>l.length≤100000) [] a7 (fun l m h=>by have:=Src.zA h;have:=Src.pM l m h;omega)
  refine jj (∃a m,dR ts j (n'+1)=.ok a m) aB mixed aa [B+12,125] [([3],[1],[],false),([8],[1],[],false),([0],[],[],false),([10],[],[1],false),([9,11],[],[0],false),([3],[0,1],[],false),([13,12],[],[],true)] 2 rfl b9 rfl XQ ?_
  simp only[go_sem]
  (apply br;(case hf=>rfl);(case hg=>first|exact x6|exact⟨_,rfl,by decide,rfl⟩);(case h1=>intro fa ga oa K' hK;simp only[go_sem,n1,n2,q3,o3] at hK ⊢;exact hK))
  (apply br;(case hf=>rfl);(case hg=>first|exact x6|exact⟨_,rfl,by decide,rfl⟩);(case h1=>intro fa ga oa K' hK;simp only[go_sem,n1,n2,q3,o3] at hK ⊢;exact hK))
  (apply br;(case hf=>rfl);(case hg=>first|exact x6|exact⟨_,rfl,by decide,rfl⟩);(case h1=>intro fa ga oa K' hK;simp only[go_sem,q0] at hK ⊢;exact hK))
  refine jk (v:=jx ls) (y:=some (rdC ts m' fin)) x6 a7 (fun fa ga oa K' hK=>?_) ?_
  ·simp only[go_sem,n1,n2] at hK ⊢
   refine ax (k:=bx K') aa rfl (vB hl (k:=j) (n:=n'+1) a6 a6) Yc (B+65) a6 (fi hf1) XN (InF.go hin) (fun m h=>by rw[←hp,h];rfl) ?_
   exact VA
  refine iD (a:=0) (v:=.one (.osl (B+12) (nxC (apC 9 (g1 (B+12)) 0) (g1 (B+12))) 1 0 (vs.length+ls.length))) (x:=nxC (apC 9 (g1 (B+12)) 0) (g1 (B+12))) (y:=some (bH (vs++ls))) rfl x6 (fun fa ga oa K' hK=>?_) ?_
  ·simp only[go_sem,n1,n2,jx,o12,hcv,aC,j5] at hK ⊢
   have e1:List.take vs.length (bH vs)++List.map C.d (List.map (fun s=>([D.str s]:List D)) ls).flatten=bH (vs++ls):=by
    rw[l5 a6,Aw]
    simp[bH]
   exact XA
  (apply br;(case hf=>rfl);(case hg=>first|exact x6|exact⟨_,rfl,by decide,rfl⟩);(case h1=>intro fa ga oa K' hK;simp only[go_sem,n1,n2,q3,o3] at hK ⊢;exact hK))
  refine jl rfl x6 ?_
  intro K' hK'
  simp only[go_sem,n1,n2,o3]
  refine hK' _ ?_
  clear hK' K'
  intro hz'
  have e:=hlook hz'
  rw[e,PR.bind_ok] at hp
  have hm1:=Src.pM ls m' e
  have hm2:=Src.sG ls m' e
  have hm3:=Src.zA e
  simp only[go_sem,n1,n2,q0]
  refine bw ts m' fin aa rfl [[59]] (B+38) Yc (B+65) a6 (fi hf1) XN XQ a6 a6 XV (InF.go hin) (fun m h=>by rw[←hp,show Src.jR=[59] from rfl,h];rfl) ?_
  intro m4 hm
  rw[show Src.jR=[59] from rfl,hm,PR.bind_ok] at hp
  have hm4:=Src.bX (ts:=ts) a7 () m4 hm
  have hm5:=Src.bW () m4 hm
  simp only[go_sem,n1,n2]
  refine ae (ts.length-m4) a6 ⟨j,m4,vs++ls,ars,a6,by rw[j4];omega,a6,a6,?_⟩
  simp only[go_sem,n1,n2,q0,q2,q3,j4]
  exact⟨⟨_,_,_,o2⟩,o32,o45,(InF.go hin),(fi hf1),hp⟩
 rw[if_neg h] at hp
 simp only[go_sem,n1,n2,q0]
 refine bM ts n' fin [97,114,114,97,121] aa rfl Yl (B+65) a6 (fi hf1) XY a6 (fun h=>?_) (fun h=>?_)
 ·rw[if_pos h] at hp
  have hlt:=Src.ck h a7
  simp only[go_sem,n1,n2,q0]
  refine ax aa rfl (mm ts (n'+1) fin 1 a6 a8) XZ (B+65) a6 (fi hf1) XN (InF.go hin) (fun m h=>by rw[←hp,h];rfl) ?_
  intro t m3 ht
  rw[ht,PR.bind_ok] at hp
  have hm3:=Src.iM t m3 ht
  have hm4:=Src.eZ t m3 ht
  unfold lp jJ
  simp only[go_sem,n1,n2,q0]
  refine bw ts m3 fin aa rfl [[91]] (B+20) XZ (B+65) a6 (fi hf1) XN XQ a6 a6 XV (InF.go hin) (fun m h=>by rw[←hp,h];rfl) ?_
  intro m5 hm
  rw[hm,PR.bind_ok] at hp
  have hm5:=Src.bX (ts:=ts) a7 () m5 hm
  have hm6:=Src.bW () m5 hm
  simp only[go_sem,n1,n2,q0]
  refine ax aa rfl (mm ts m5 fin 2 a6 a8) XZ (B+65) a6 (fi hf1) XN (InF.go hin) (fun m h=>by rw[←hp,h];rfl) ?_
  intro t2 m7 ht2
  rw[ht2,PR.bind_ok] at hp
  have hm7:=Src.iM t2 m7 ht2
  have hm8:=Src.eZ t2 m7 ht2
  have hw2:IntKind.i64.wrap (t2.num:Int)=(t2.num:Int):=by
   have:t2∈ts:=by
    unfold takeN at ht2
    split at ht2
    ·rename_i t' ht'
     split at ht2
     ·cases ht2;exact l6 ht'
     ·cases ht2
    ·cases ht2
   have:=hnum t2 this
   rw[wrap_i64] <;> omega
  unfold lp jJ
  simp only[go_sem,n1,n2,q0,hw2,q3,o3,o32,hca,aC]
  refine⟨a6,⟨a8,a6⟩,?_⟩
  have e1:List.take (ars.length*2) (wN ars)++[C.d (D.str t.text),C.d (D.int IntKind.i64 ↑t2.num)]=wN (ars++[(t.text,(t2.num:Int))]):=by
   rw[l5 a6]
   simp[wN,arD]
  rw[e1]
  refine bw ts m7 fin aa rfl [[93]] (B+35) XZ (B+65) a6 (fi hf1) XN XQ a6 a6 XV (InF.go hin) (fun m h=>by rw[←hp,h];rfl) ?_
  intro m9 hm
  rw[hm,PR.bind_ok] at hp
  have hm9:=Src.bX (ts:=ts) a7 () m9 hm
  have hm10:=Src.bW () m9 hm
  simp only[go_sem,n1,n2,q0]
  refine bw ts m9 fin aa rfl [[59]] (B+38) XZ (B+65) a6 (fi hf1) XN XQ a6 a6 XV (InF.go hin) (fun m h=>by rw[←hp,show Src.jR=[59] from rfl,h];rfl) ?_
  intro m11 hm
  rw[show Src.jR=[59] from rfl,hm,PR.bind_ok] at hp
  have hm11:=Src.bX (ts:=ts) a7 () m11 hm
  have hm12:=Src.bW () m11 hm
  simp only[go_sem,n1,n2]
  refine ae (ts.length-m11) a6 ⟨j,m11,vs,ars++[(t.text,(t2.num:Int))],a6,a6,by rw[j4];simp;omega,a6,?_⟩
  simp only[go_sem,n1,n2,q0,q2,q3,j4]
  exact⟨⟨_,_,_,o2⟩,o12,o45,(InF.go hin),(fi hf1),hp⟩
 rw[if_neg h,PR.bind_ok] at hp
 simp only at hp
 simp only[go_sem,n1,n2,q0]
 obtain⟨f0,m0,hlook⟩:=look (lL ts k n')
 refine jj (∃a m,lL ts k n'=.ok a m) aB mixed aa [B+44,B+45,125] [([3],[0,2],[],false),([40],[0,2],[],false),([0],[],[],false),([42],[],[2],false),([43],[],[0],false),([41,44],[],[1],false),([3],[0,1,2],[],false),([46,45],[],[],true)] 3 rfl b9 rfl XQ ?_
 simp only[go_sem]
 (apply br;(case hf=>rfl);(case hg=>first|exact x6|exact⟨_,rfl,by decide,rfl⟩);(case h1=>intro fa ga oa K' hK;simp only[go_sem,n1,n2,q3,o3] at hK ⊢;exact hK))
 (apply br;(case hf=>rfl);(case hg=>first|exact x6|exact⟨_,rfl,by decide,rfl⟩);(case h1=>intro fa ga oa K' hK;simp only[go_sem,n1,n2,q3,o3] at hK ⊢;exact hK))
 (apply br;(case hf=>rfl);(case hg=>first|exact x6|exact⟨_,rfl,by decide,rfl⟩);(case h1=>intro fa ga oa K' hK;simp only[go_sem,q0] at hK ⊢;exact hK))
 refine jk (v:=fnV f0) (y:=some (rdC ts m0 fin)) x6 a7 (fun fa ga oa K' hK=>?_) ?_
 ·simp only[go_sem,n1,n2] at hK ⊢
  refine ax (k:=bx K') aa rfl (Kw hl (k:=k) (n:=n') a6 a6) Yc (B+65) a6 (fi hf1) XY (InF.go hin) (fun m h=>by rw[←hp,h];rfl) ?_
  exact VA
 (apply iD;(case hf=>rfl);(case hg=>first|exact x6|exact⟨_,rfl,by decide,rfl⟩);(case h1=>intro fa ga oa K' hK;simp only[go_sem,fnV,fnD] at hK ⊢;exact hK))
 refine iD (a:=1) (v:=.one (.osl (B+45) (nxC (apC 129 (g1 (B+45)) 0) (g1 (B+45))) 5 0 1)) (x:=nxC (apC 129 (g1 (B+45)) 0) (g1 (B+45))) (y:=some (fnC [f0])) rfl x6 (fun fa ga oa K' hK=>?_) ?_
 ·simp only[go_sem,n1,n2,o45,aC,j5,Ax,fnD] at hK ⊢
  exact⟨⟨a8,a6⟩,hK⟩
 (apply br;(case hf=>rfl);(case hg=>first|exact x6|exact⟨_,rfl,by decide,rfl⟩);(case h1=>intro fa ga oa K' hK;simp only[go_sem,n1,n2,q3,o3] at hK ⊢;exact hK))
 refine jl rfl x6 ?_
 intro K' hK'
 simp only[go_sem,n1,n2,o3]
 refine hK' _ ?_
 clear hK' K'
 intro hz'
 have e:=hlook hz'
 rw[e,PR.bind_ok] at hp
 have hm1:=Src.AW f0 m0 e
 have hm2:=Src.RN f0 m0 e
 simp only[go_sem,n1,n2,q0]
 refine ai (fun z st=>∃(j n'':Nat) (fs:List Src.Fn),z+n''=ts.length∧fs.length≤n''∧4*(ts.length-n'')+6≤j∧st.f 0=.one (.ptr 125 (g 125) 0)∧st.f 2=.one (.ptr (B+2) (st.gen (B+2)) 0)∧st.f 3=.one (.ptr (B+3) (st.gen (B+3)) 0)∧(∃a b c,st.obj (B+2)=some [a,b,c])∧
   st.obj (B+3)=some [.osl (B+12) (st.gen (B+12)) 1 0 vs.length,.osl (B+32) (st.gen (B+32)) 2 0 ars.length,.osl (B+45) (st.gen (B+45)) 5 0 fs.length]∧st.obj (B+12)=some (bH vs)∧st.obj (B+32)=some (wN ars)∧st.obj (B+45)=some (fnC fs)∧st.obj 125=some (rdC ts n'' fin)∧InF B g ob st.gen st.obj∧(∀i,B+65≤i→st.obj i=none)∧
   ((lF ts j fs n'').bind fun fs n=>PR.ok (Src.Prog.mk vs ars fs) n)=p) (ts.length-m0) ?_ ?_
 ·refine⟨k,m0,[f0],a6,by simp;omega,a6,?_⟩
  simp only[go_sem,n1,n2,q0,q2,q3]
  exact⟨⟨_,_,_,o2⟩,o12,o32,(InF.go hin),(fi hf1),hp⟩
 clear hf1 hin hp q0 q2 q3 o2 o3 o12 o32 o45 o125 hlook hz' e hg
 rintro z f g1 ob1 ⟨j,n'',fs,hz,hfs,hj,q0,q2,q3,⟨a,b,c,o2⟩,o3,o12,o32,o45,o125,hin,hf1,hp⟩
 simp only at q0 q2 q3 o2 o3 o12 o32 o45 o125 hin hf1
 obtain⟨j,rfl⟩:∃i,j=i+1:=⟨j-1,a6⟩
 rw[lF] at hp
 have hg:=hin.rd
 have o125':=o125
 unfold rdC dF at o125'
 have hcf:=HK fs
 simp only[go_sem]
 refine aJ b9 ?_
 by_cases hlt:n''<ts.length
 case neg=>
  rw[if_neg hlt,PR.bind_ok] at hp
  have hli:¬(n'':Int)<(ts.length:Int):=a6
  simp only[go_sem,n1,n2,hg,q0,o125',hli,j5,q2,q3,o2,o3]
  refine⟨_,ab.refl _,?_⟩
  simp only[go_sem,n1,n2,q2]
  refine InF.ret (n:=n'') (a:=⟨vs,ars,fs⟩) (rs:=[.agg [.d (.sl (vs.map fun s=>[.str s])),.d (.sl (ars.map arD)),.d (.sl (fs.map fnD))]]) (InF.go hin) XY hp.symm ?_ rfl
  exact⟨_,_,rfl,.agg (xs:=[.sl (vs.map fun s=>[.str s]),.sl (ars.map arD),.sl (fs.map fnD)]) rfl (fun i e he=>by
   match i,he with
   |0,he=>cases he;exact⟨_,rfl,Av a6 XN (by simp only[go_sem,n1,n2,o12]) rfl⟩
   |1,he=>cases he;exact⟨_,rfl,LR a6 XN (by simp only[go_sem,n1,n2,o32]) rfl⟩
   | 2,he=>cases he;exact⟨_,rfl,Rl a6 XN (by simp only[go_sem,n1,n2,o45]) rfl⟩),rfl⟩
 rw[if_pos hlt] at hp
 have hli:(n'':Int)<(ts.length:Int):=a6
 simp only[go_sem,n1,n2,hg,q0,o125',hli,j5]
 obtain⟨f1,m1,hlook⟩:=look (lL ts j n'')
 refine jj (∃a m,lL ts j n''=.ok a m) aB mixed aa [B+61,B+45,125] [([3],[0,2],[],false),([57],[0,2],[],false),([0],[],[],false),([59],[],[2],false),([60],[],[0],false),([58,61],[],[1],false),([3],[0,1,2],[],false),([63,62],[],[],true)] 3 rfl b9 rfl XQ ?_
 simp only[go_sem]
 (apply br;(case hf=>rfl);(case hg=>first|exact x6|exact⟨_,rfl,by decide,rfl⟩);(case h1=>intro fa ga oa K' hK;simp only[go_sem,n1,n2,q3,o3] at hK ⊢;exact hK))
 (apply br;(case hf=>rfl);(case hg=>first|exact x6|exact⟨_,rfl,by decide,rfl⟩);(case h1=>intro fa ga oa K' hK;simp only[go_sem,n1,n2,q3,o3] at hK ⊢;exact hK))
 (apply br;(case hf=>rfl);(case hg=>first|exact x6|exact⟨_,rfl,by decide,rfl⟩);(case h1=>intro fa ga oa K' hK;simp only[go_sem,q0] at hK ⊢;exact hK))
 refine jk (v:=fnV f1) (y:=some (rdC ts m1 fin)) x6 a7 (fun fa ga oa K' hK=>?_) ?_
 ·simp only[go_sem,n1,n2] at hK ⊢
  refine ax (k:=bx K') aa rfl (Kw hl (k:=j) (n:=n'') a6 a6) Yc (B+65) a6 (fi hf1) XY (InF.go hin) (fun m h=>by rw[←hp,h];rfl) ?_
  exact VA
 (apply iD;(case hf=>rfl);(case hg=>first|exact x6|exact⟨_,rfl,by decide,rfl⟩);(case h1=>intro fa ga oa K' hK;simp only[go_sem,fnV,fnD] at hK ⊢;exact hK))
 refine iD (a:=1) (v:=.one (.osl (B+45) (nxC (apC 129 (g1 (B+45)) 0) (g1 (B+45))) 5 0 (fs.length+1))) (x:=nxC (apC 129 (g1 (B+45)) 0) (g1 (B+45))) (y:=some (fnC (fs++[f1]))) rfl x6 (fun fa ga oa K' hK=>?_) ?_
 ·simp only[go_sem,n1,n2,o45,aC,j5,hcf] at hK ⊢
  have e1:List.take (fs.length*5) (fnC fs)++(fnD f1).map C.d=fnC (fs++[f1]):=by
   rw[l5 a6,HL,Ax]
  simp only[fnD,l7,v8] at e1
  exact W7
 (apply br;(case hf=>rfl);(case hg=>first|exact x6|exact⟨_,rfl,by decide,rfl⟩);(case h1=>intro fa ga oa K' hK;simp only[go_sem,n1,n2,q3,o3] at hK ⊢;exact hK))
 refine jl rfl x6 ?_
 intro K' hK'
 simp only[go_sem,n1,n2,o3]
 refine hK' _ ?_
 clear hK' K'
 intro hz'
 have e:=hlook hz'
 rw[e,PR.bind_ok] at hp
 have hm3:=Src.AW f1 m1 e
 have hm4:=Src.RN f1 m1 e
 simp only[go_sem,n1,n2,q0]
 refine ae (ts.length-m1) a6 ⟨j,m1,fs++[f1],a6,by rw[j4];simp;omega,a6,?_⟩
 simp only[go_sem,n1,n2,q0,q2,q3,j4]
 exact⟨⟨_,_,_,o2⟩,o12,o32,(InF.go hin),(fi hf1),hp⟩
end
end
end Go.Proofs.YtgiigidgdhplfaaGreatDoor
namespace Go.Src
section
open Go.Asm (Str letter iy)
def cO (s:Str):Bool:=decide (s≠[]∧s.length≤20∧s.head?.any letter=true∧s.takeWhile iy=s∧s∉FL)
def aO (named:Bool) (s:Str):Bool:=if named then cO s else decide (s=[])
def oT (kind op num:Int) (name:Str) (n:Nat):Bool:=
 if kind=1 then decide (op=0) && aO false name && decide (n=0)
 else if kind=2 then decide (op=0∧num=0) && aO true name && decide (n=0)
 else if kind=3 then decide (op=0∧num=0) && aO true name && decide (n=1)
 else if kind=4 then decide (op=0∧num=0) && aO true name && decide (n≤6)
 else if kind=5 then decide (op=0∧num=0) && aO false name && decide (n=0)
 else if kind=6 then decide ((4≤op∧op≤15)∧num=0) && aO false name && decide (n=2)
 else if kind=7 then decide (op=0∧num=0) && aO false name && decide (n=1)
 else if kind=8∨kind=9 then decide (op=0∧num=0) && aO false name && decide (n=2)
 else false
mutual
def jG (lv:Nat):Ex→Bool
 |.mk kind op num name kids=>decide (lv≤24)&&(oT kind op num name kids.length&&dW (lv+1) kids)
def dW (lv:Nat):List Ex→Bool
 |[]=>true
 |e::l=>jG lv e&&dW lv l
end
def oU (kind:Int) (name:Str) (n nt ne:Nat):Bool:=
 if kind=1 then aO true name && decide (n=1∧nt=0∧ne=0)
 else if kind=2 then aO true name && decide (n=2∧nt=0∧ne=0)
 else if kind=3 then aO false name && decide (n=1∧nt=0∧ne=0)
 else if kind=4 then aO false name && decide (n=1)
 else if kind=5 then aO false name && decide (n=1∧ne=0)
 else if kind=6 then aO true name && decide (n≤6∧nt=0∧ne=0)
 else if kind=7 then aO false name && decide (n≤1∧nt=0∧ne=0)
 else false
mutual
def iS (lv:Nat):Stm→Bool
 |.mk kind name e th el=>decide (lv≤24)&&(oU kind name e.length th.length el.length&&dW (lv+1) e)&&(dG (lv+1) th&&dG (lv+1) el)
def dG (lv:Nat):List Stm→Bool
 |[]=>true
 |s::l=>iS lv s&&dG lv l
end
def eC (f:Fn):Bool:=cO f.name&&decide (f.params.length≤6)&&(f.params.all cO&&f.locals.all cO&&dG 1 f.body)
def fF (a:Str×Int):Bool:=cO a.1&&decide (1≤a.2)&&decide (a.2≤4096)
def dS (p:Prog):Bool:=decide (1≤p.funcs.length∧p.funcs.length≤64)&&p.vars.all cO&&(p.arrays.all fF&&p.funcs.all eC)
mutual
def szE:Ex→Nat
 |.mk _ _ _ _ kids=>bF kids+1
def bF:List Ex→Nat
 |[]=>0
 |e::l=>szE e+bF l
end
mutual
def szS:Stm→Nat
 |.mk _ _ e th el=>bF e+bu th+bu el+1
def bu:List Stm→Nat
 |[]=>0
 |s::l=>szS s+bu l
end
theorem Jq:∀{l:List Ex}{e:Ex},e∈l→szE e≤bF l
 |x::l,e,h=>by
   rw[bF]
   rcases x9.1 h with rfl|h
   ·omega
   ·have:=Jq h;omega
theorem Jr:∀{l:List Stm}{e:Stm},e∈l→szS e≤bu l
 |x::l,e,h=>by
   rw[bu]
   rcases x9.1 h with rfl|h
   ·omega
   ·have:=Jr h;omega
theorem FZ:∀l:List Ex,l.length≤bF l
 |[]=>l0 _
 |e::l=>by have:=FZ l;cases e;simp only[bF,szE,j6];omega
theorem Ga:∀l:List Stm,l.length≤bu l
 |[]=>l0 _
 |e::l=>by have:=Ga l;cases e;simp only[bu,szS,j6];omega
theorem xL {lv:Nat}:∀l:List Ex,dW lv l=l.all (jG lv)
 |[]=>by simp[dW]
 |e::l=>by simp[dW,xL l]
theorem xM {lv:Nat}:∀l:List Stm,dG lv l=l.all (iS lv)
 |[]=>by simp[dG]
 |e::l=>by simp[dG,xM l]
theorem RO {α:Type}{p:α→Bool}{l:List α}{k:Nat}{x:α} (h:(l.take k).all p=true) (hx:l[k]? = some x) (hp:p x=true):(l.take (k+1)).all p=true:=by
 rw[A2,hx,O9,h];simp[hp]
theorem all_false {α:Type}{p:α→Bool}{l:List α}{k:Nat}{x:α} (hx:l[k]? = some x) (hp:p x=false):l.all p=false:=by
 rw[List.all_eq_false]
 exact⟨x,l6 hx,by simp[hp]⟩
end
end Go.Src
namespace Go.Proofs.YtgiigidgdhplfaaGreatDoor
section
attribute [local congr] Go.Am.ite_cc
open Go Go.Am Go.Asm
open Go.Src (cO)
section
variable {o:bE}
theorem LT (ho:gK o) (s:Str):bi Tryz.prog 3 o 91 [sv s] (· = bv (cO s)):=by
 refine hdG Tryz.func91 rfl [.tmp 2] fun b₀ β0 s0 w0 g=>?_
 obtain⟨z,hz⟩:∃z,cO s=z:=⟨_,rfl⟩
 rw[hz]
 unfold cO at hz
 by_cases hnil:s=[]
 ·obtain rfl:z=false:=by rw[←hz];exact y9 fun h=>h.1 hnil
  simp only[go_sem,s5 hnil]
 by_cases hlen:s.length≤20
 case neg=>
  obtain rfl:z=false:=by rw[←hz];exact y9 fun h=>hlen h.2.1
  have hli:¬(s.length:Int)≤20:=a6
  simp only[go_sem,hnil,hli]
 have hli:(s.length:Int)≤20:=a6
 obtain⟨c,hc⟩:∃c,s[0]? = some c:=by
  cases s with
  |nil=>exact absurd rfl hnil
  |cons c r=>exact⟨c,rfl⟩
 have hhd:s.head? = some c:=by rw[←hc,List.head?_eq_getElem?]
 simp only[go_sem,hnil,hli,hc]
 refine iE rfl (by simp only[go_sem];exact mW c) ?_
 rintro _ rfl
 cases hlc:letter c
 ·obtain rfl:z=false:=by rw[←hz];exact y9 fun h=>by have:=h.2.2.1;rw[hhd] at this;simp[hlc] at this
  exact VU
 simp only[go_sem]
 refine iE rfl (by simp only[go_sem];exact qQ (fun c=>um c) s a6) ?_
 rintro _ rfl
 by_cases hfr:s.takeWhile iy=s
 case neg=>
  obtain rfl:z=false:=by rw[←hz];exact y9 fun h=>hfr h.2.2.2.1
  simp only[go_sem,hfr]
 simp only[go_sem,hfr]
 refine cp rfl (by simp only[go_sem];exact xu ho s) ?_
 rintro _ rfl
 by_cases hw:s∈Src.FL
 ·obtain rfl:z=false:=by rw[←hz];exact y9 fun h=>h.2.2.2.2 hw
  simp only[go_sem,hw]
 ·obtain rfl:z=true:=by rw[←hz];exact E0 ⟨hnil,hlen,by rw[hhd];simp[hlc],hfr,hw⟩
  simp only[go_sem,hw]
theorem lf (ho:gK o) (s:Str):bi Tryz.prog 3 o 64 [sv s] (· = bv (cO s)):=by
 refine hdG Tryz.func64 rfl [.tmp 2] fun b₀ β0 s0 w0 g=>?_
 have hno:s∈Src.FL→cO s=false:=fun h=>y9 fun h'=>h'.2.2.2.2 h
 obtain⟨z,hz⟩:∃z,cO s=z:=⟨_,rfl⟩
 rw[hz]
 rw[hz] at hno
 by_cases h0:s=[118,97,114]
 ·obtain rfl:=hno (by rw[h0];decide)
  simp only[go_sem,s5 h0]
 by_cases h1:s=[97,114,114,97,121]
 ·obtain rfl:=hno (by rw[h1];decide)
  simp only[go_sem,h0,s5 h1]
 by_cases h2:s=[102,117,110,99]
 ·obtain rfl:=hno (by rw[h2];decide)
  simp only[go_sem,h0,h1,s5 h2]
 by_cases h3:s=[119,111,114,100]
 ·obtain rfl:=hno (by rw[h3];decide)
  simp only[go_sem,h0,h1,h2,s5 h3]
 by_cases h4:s=[105,102]
 ·obtain rfl:=hno (by rw[h4];decide)
  simp only[go_sem,h0,h1,h2,h3,s5 h4]
 by_cases h5:s=[101,108,115,101]
 ·obtain rfl:=hno (by rw[h5];decide)
  simp only[go_sem,h0,h1,h2,h3,h4,s5 h5]
 by_cases h6:s=[119,104,105,108,101]
 ·obtain rfl:=hno (by rw[h6];decide)
  simp only[go_sem,h0,h1,h2,h3,h4,h5,s5 h6]
 by_cases h7:s=[114,101,116,117,114,110]
 ·obtain rfl:=hno (by rw[h7];decide)
  simp only[go_sem,h0,h1,h2,h3,h4,h5,h6,s5 h7]
 by_cases h8:s=[112,117,116]
 ·obtain rfl:=hno (by rw[h8];decide)
  simp only[go_sem,h0,h1,h2,h3,h4,h5,h6,h7,s5 h8]
 by_cases h9:s=[103,101,116]
 ·obtain rfl:=hno (by rw[h9];decide)
  simp only[go_sem,h0,h1,h2,h3,h4,h5,h6,h7,h8,s5 h9]
 simp only[go_sem,h0,h1,h2,h3,h4,h5,h6,h7,h8,h9]
 refine cp rfl (by simp only[go_sem];exact LT ho s) ?_
 rintro _ rfl
 rw[hz]
 exact VU
theorem bU (ho:gK o) (s:Str) (b:Bool):bi Tryz.prog 3 o 125 [sv s,bv b] (· = bv (Src.aO b s)):=by
 refine hdG Tryz.func125 rfl [.tmp 4] fun b₀ β0 s0 w0 g=>?_
 unfold Src.aO
 cases b
 ·exact VU
 ·simp only[go_sem]
  refine cp rfl (by simp only[go_sem];exact lf ho s) ?_
  rintro _ rfl
  exact VU
theorem nA (ho:gK o) (l:List Str) (hl:l.length≤1000000000):bi Tryz.prog 3 o 63 [jx l] (· = bv (l.all cO)):=by
 refine hdG Tryz.func63 rfl [.tmp 2] fun b₀ β0 s0 w0 g=>?_
 unfold jx
 simp only[go_sem,j5]
 refine ai (fun z st=>∃k:Nat,z+k=l.length∧(l.take k).all cO=true∧st.f 5=.one (.d (.sl (l.map fun s=>[.str s])))∧st.f 6=iv .i64 l.length∧st.f 7=iv .i64 k) l.length ?_ ?_
 ·exact Xk
 rintro z f g1 ob1 ⟨k,hk,hall,q5,q6,q7⟩
 simp only at q5 q6 q7
 have hw:=ah (k:=k) a6
 by_cases hlt:k<l.length
 case neg=>
  have hki:¬(k:Int)<(l.length:Int):=a6
  obtain rfl:k=l.length:=a6
  rw[l5 (l0 _)] at hall
  simp only[go_sem,q6,q7,hki,hall]
 have hki:(k:Int)<(l.length:Int):=a6
 have hk0:(0:Int)≤(k:Int):=a6
 obtain⟨s,hs⟩:=getq hlt
 simp only[go_sem,q5,q6,q7,hki,hk0,hs]
 refine cp rfl (by simp only[go_sem];exact lf ho s) ?_
 rintro _ rfl
 cases hb:cO s
 ·simp only[go_sem,Src.all_false hs hb]
 ·simp only[go_sem,q7,hw]
  refine ae (z-1) a6 ⟨k+1,a6,Src.RO hall hs hb,?_⟩
  simp only[go_sem,q5,q6]
end
end
section
attribute [local congr] Go.Am.ite_cc
open Go Go.Am Go.Asm
open Go.Src (cO aO oT oU Ex Stm)
theorem yL {o:bE} (ho:gK o) (e:Ex):bi Tryz.prog 3 o 126 [exV e] (· = bv (match e with|.mk kind op num name kids=>oT kind op num name kids.length)):=by
 obtain⟨kind,op,num,name,kids⟩:=e
 refine hdG Tryz.func126 rfl [.tmp 2] fun b₀ β0 s0 w0 g=>?_
 simp only
 obtain⟨z,hz⟩:∃z,oT kind op num name kids.length=z:=⟨_,rfl⟩
 rw[hz]
 unfold exV
 simp only[exD,aZ,l7,v8]
 unfold oT at hz
 by_cases k1:kind=1
 ·rw[if_pos k1] at hz
  by_cases ho0:op=0
  case neg=>
   obtain rfl:z=false:=by rw[←hz];simp[ho0]
   simp only[go_sem,s5 k1,ho0]
  simp only[go_sem,s5 k1,s5 ho0]
  refine cp rfl X8 ?_
  rintro _ rfl
  cases hnm:aO false name
  ·obtain rfl:z=false:=by rw[←hz];simp[hnm]
   simp only[go_sem,s5 k1,s5 ho0]
  by_cases hln:kids.length=0
  case neg=>
   obtain rfl:z=false:=by rw[←hz];simp[hln]
   have hlo:(0:Int)≤(kids.length:Int):=a6
   have hhi:¬(kids.length:Int)≤0:=a6
   simp only[go_sem,s5 k1,s5 ho0,j5,hlo,hhi]
  have hlo:(0:Int)≤(kids.length:Int):=a6
  have hhi:(kids.length:Int)≤0:=a6
  obtain rfl:z=true:=by rw[←hz];simp[ho0,hnm,hln]
  simp only[go_sem,s5 k1,s5 ho0,j5,hlo,hhi]
 by_cases k2:kind=2
 ·rw[if_neg k1,if_pos k2] at hz
  by_cases ho0:op=0
  case neg=>
   obtain rfl:z=false:=by rw[←hz];simp[ho0]
   simp only[go_sem,s5 k2,k1,ho0]
  by_cases hn0:num=0
  case neg=>
   obtain rfl:z=false:=by rw[←hz];simp[hn0]
   simp only[go_sem,s5 k2,k1,s5 ho0,hn0]
  simp only[go_sem,s5 k2,k1,s5 ho0,s5 hn0]
  refine cp rfl Yg ?_
  rintro _ rfl
  cases hnm:aO true name
  ·obtain rfl:z=false:=by rw[←hz];simp[hnm]
   simp only[go_sem,s5 k2,k1,s5 ho0,s5 hn0]
  by_cases hln:kids.length=0
  case neg=>
   obtain rfl:z=false:=by rw[←hz];simp[hln]
   have hlo:(0:Int)≤(kids.length:Int):=a6
   have hhi:¬(kids.length:Int)≤0:=a6
   simp only[go_sem,s5 k2,k1,s5 ho0,s5 hn0,j5,hlo,hhi]
  have hlo:(0:Int)≤(kids.length:Int):=a6
  have hhi:(kids.length:Int)≤0:=a6
  obtain rfl:z=true:=by rw[←hz];simp[ho0,hn0,hnm,hln]
  simp only[go_sem,s5 k2,k1,s5 ho0,s5 hn0,j5,hlo,hhi]
 by_cases k3:kind=3
 ·rw[if_neg k1,if_neg k2,if_pos k3] at hz
  by_cases ho0:op=0
  case neg=>
   obtain rfl:z=false:=by rw[←hz];simp[ho0]
   simp only[go_sem,s5 k3,k1,k2,ho0]
  by_cases hn0:num=0
  case neg=>
   obtain rfl:z=false:=by rw[←hz];simp[hn0]
   simp only[go_sem,s5 k3,k1,k2,s5 ho0,hn0]
  simp only[go_sem,s5 k3,k1,k2,s5 ho0,s5 hn0]
  refine cp rfl Yg ?_
  rintro _ rfl
  cases hnm:aO true name
  ·obtain rfl:z=false:=by rw[←hz];simp[hnm]
   simp only[go_sem,s5 k3,k1,k2,s5 ho0,s5 hn0]
  by_cases hln:kids.length=1
  case neg=>
   obtain rfl:z=false:=by rw[←hz];simp[hln]
   by_cases hlo:(1:Int)≤(kids.length:Int)
   ·have hhi:¬(kids.length:Int)≤1:=a6
    simp only[go_sem,s5 k3,k1,k2,s5 ho0,s5 hn0,j5,hlo,hhi]
   ·simp only[go_sem,s5 k3,k1,k2,s5 ho0,s5 hn0,j5,hlo]
  have hlo:(1:Int)≤(kids.length:Int):=a6
  have hhi:(kids.length:Int)≤1:=a6
  obtain rfl:z=true:=by rw[←hz];simp[ho0,hn0,hnm,hln]
  simp only[go_sem,s5 k3,k1,k2,s5 ho0,s5 hn0,j5,hlo,hhi]
 by_cases k4:kind=4
 ·rw[if_neg k1,if_neg k2,if_neg k3,if_pos k4] at hz
  by_cases ho0:op=0
  case neg=>
   obtain rfl:z=false:=by rw[←hz];simp[ho0]
   simp only[go_sem,s5 k4,k1,k2,k3,ho0]
  by_cases hn0:num=0
  case neg=>
   obtain rfl:z=false:=by rw[←hz];simp[hn0]
   simp only[go_sem,s5 k4,k1,k2,k3,s5 ho0,hn0]
  simp only[go_sem,s5 k4,k1,k2,k3,s5 ho0,s5 hn0]
  refine cp rfl Yg ?_
  rintro _ rfl
  cases hnm:aO true name
  ·obtain rfl:z=false:=by rw[←hz];simp[hnm]
   simp only[go_sem,s5 k4,k1,k2,k3,s5 ho0,s5 hn0]
  have hlo:(0:Int)≤(kids.length:Int):=a6
  by_cases hln:kids.length≤6
  case neg=>
   obtain rfl:z=false:=by rw[←hz];simp;omega
   have hhi:¬(kids.length:Int)≤6:=a6
   simp only[go_sem,s5 k4,k1,k2,k3,s5 ho0,s5 hn0,j5,hlo,hhi]
  have hhi:(kids.length:Int)≤6:=a6
  obtain rfl:z=true:=by rw[←hz];simp[ho0,hn0,hnm,hln]
  simp only[go_sem,s5 k4,k1,k2,k3,s5 ho0,s5 hn0,j5,hlo,hhi]
 by_cases k5:kind=5
 ·rw[if_neg k1,if_neg k2,if_neg k3,if_neg k4,if_pos k5] at hz
  by_cases ho0:op=0
  case neg=>
   obtain rfl:z=false:=by rw[←hz];simp[ho0]
   simp only[go_sem,s5 k5,k1,k2,k3,k4,ho0]
  by_cases hn0:num=0
  case neg=>
   obtain rfl:z=false:=by rw[←hz];simp[hn0]
   simp only[go_sem,s5 k5,k1,k2,k3,k4,s5 ho0,hn0]
  simp only[go_sem,s5 k5,k1,k2,k3,k4,s5 ho0,s5 hn0]
  refine cp rfl X8 ?_
  rintro _ rfl
  cases hnm:aO false name
  ·obtain rfl:z=false:=by rw[←hz];simp[hnm]
   simp only[go_sem,s5 k5,k1,k2,k3,k4,s5 ho0,s5 hn0]
  by_cases hln:kids.length=0
  case neg=>
   obtain rfl:z=false:=by rw[←hz];simp[hln]
   have hlo:(0:Int)≤(kids.length:Int):=a6
   have hhi:¬(kids.length:Int)≤0:=a6
   simp only[go_sem,s5 k5,k1,k2,k3,k4,s5 ho0,s5 hn0,j5,hlo,hhi]
  have hlo:(0:Int)≤(kids.length:Int):=a6
  have hhi:(kids.length:Int)≤0:=a6
  obtain rfl:z=true:=by rw[←hz];simp[ho0,hn0,hnm,hln]
  simp only[go_sem,s5 k5,k1,k2,k3,k4,s5 ho0,s5 hn0,j5,hlo,hhi]
 by_cases k6:kind=6
 ·rw[if_neg k1,if_neg k2,if_neg k3,if_neg k4,if_neg k5,if_pos k6] at hz
  by_cases hol:op<4
  case pos=>
   have hx:¬4≤op:=a6
   obtain rfl:z=false:=by rw[←hz];simp[hx]
   simp only[go_sem,s5 k6,k1,k2,k3,k4,k5,hol]
  by_cases hoh:15<op
  case pos=>
   have hx:¬op≤15:=a6
   obtain rfl:z=false:=by rw[←hz];simp[hx]
   simp only[go_sem,s5 k6,k1,k2,k3,k4,k5,hol,hoh]
  have hx1:4≤op:=a6
  have hx2:op≤15:=a6
  by_cases hn0:num=0
  case neg=>
   obtain rfl:z=false:=by rw[←hz];simp[hn0]
   simp only[go_sem,s5 k6,k1,k2,k3,k4,k5,hol,hoh,hn0]
  simp only[go_sem,s5 k6,k1,k2,k3,k4,k5,hol,hoh,s5 hn0]
  refine cp rfl X8 ?_
  rintro _ rfl
  cases hnm:aO false name
  ·obtain rfl:z=false:=by rw[←hz];simp[hnm]
   simp only[go_sem,s5 k6,k1,k2,k3,k4,k5,hol,hoh,s5 hn0]
  by_cases hln:kids.length=2
  case neg=>
   obtain rfl:z=false:=by rw[←hz];simp[hln]
   by_cases hlo:(2:Int)≤(kids.length:Int)
   ·have hhi:¬(kids.length:Int)≤2:=a6
    simp only[go_sem,s5 k6,k1,k2,k3,k4,k5,hol,hoh,s5 hn0,j5,hlo,hhi]
   ·simp only[go_sem,s5 k6,k1,k2,k3,k4,k5,hol,hoh,s5 hn0,j5,hlo]
  have hlo:(2:Int)≤(kids.length:Int):=a6
  have hhi:(kids.length:Int)≤2:=a6
  obtain rfl:z=true:=by rw[←hz];simp[hx1,hx2,hn0,hnm,hln]
  simp only[go_sem,s5 k6,k1,k2,k3,k4,k5,hol,hoh,s5 hn0,j5,hlo,hhi]
 by_cases k7:kind=7
 ·rw[if_neg k1,if_neg k2,if_neg k3,if_neg k4,if_neg k5,if_neg k6,if_pos k7] at hz
  by_cases ho0:op=0
  case neg=>
   obtain rfl:z=false:=by rw[←hz];simp[ho0]
   simp only[go_sem,s5 k7,k1,k2,k3,k4,k5,k6,ho0]
  by_cases hn0:num=0
  case neg=>
   obtain rfl:z=false:=by rw[←hz];simp[hn0]
   simp only[go_sem,s5 k7,k1,k2,k3,k4,k5,k6,s5 ho0,hn0]
  simp only[go_sem,s5 k7,k1,k2,k3,k4,k5,k6,s5 ho0,s5 hn0]
  refine cp rfl X8 ?_
  rintro _ rfl
  cases hnm:aO false name
  ·obtain rfl:z=false:=by rw[←hz];simp[hnm]
   simp only[go_sem,s5 k7,k1,k2,k3,k4,k5,k6,s5 ho0,s5 hn0]
  by_cases hln:kids.length=1
  case neg=>
   obtain rfl:z=false:=by rw[←hz];simp[hln]
   by_cases hlo:(1:Int)≤(kids.length:Int)
   ·have hhi:¬(kids.length:Int)≤1:=a6
    simp only[go_sem,s5 k7,k1,k2,k3,k4,k5,k6,s5 ho0,s5 hn0,j5,hlo,hhi]
   ·simp only[go_sem,s5 k7,k1,k2,k3,k4,k5,k6,s5 ho0,s5 hn0,j5,hlo]
  have hlo:(1:Int)≤(kids.length:Int):=a6
  have hhi:(kids.length:Int)≤1:=a6
  obtain rfl:z=true:=by rw[←hz];simp[ho0,hn0,hnm,hln]
  simp only[go_sem,s5 k7,k1,k2,k3,k4,k5,k6,s5 ho0,s5 hn0,j5,hlo,hhi]
 by_cases k8:kind=8
 ·rw[if_neg k1,if_neg k2,if_neg k3,if_neg k4,if_neg k5,if_neg k6,if_neg k7,if_pos (Or.inl k8)] at hz
  by_cases ho0:op=0
  case neg=>
   obtain rfl:z=false:=by rw[←hz];simp[ho0]
   simp only[go_sem,s5 k8,k1,k2,k3,k4,k5,k6,k7,ho0]
  by_cases hn0:num=0
  case neg=>
   obtain rfl:z=false:=by rw[←hz];simp[hn0]
   simp only[go_sem,s5 k8,k1,k2,k3,k4,k5,k6,k7,s5 ho0,hn0]
  simp only[go_sem,s5 k8,k1,k2,k3,k4,k5,k6,k7,s5 ho0,s5 hn0]
  refine cp rfl X8 ?_
  rintro _ rfl
  cases hnm:aO false name
  ·obtain rfl:z=false:=by rw[←hz];simp[hnm]
   simp only[go_sem,s5 k8,k1,k2,k3,k4,k5,k6,k7,s5 ho0,s5 hn0]
  by_cases hln:kids.length=2
  case neg=>
   obtain rfl:z=false:=by rw[←hz];simp[hln]
   by_cases hlo:(2:Int)≤(kids.length:Int)
   ·have hhi:¬(kids.length:Int)≤2:=a6
    simp only[go_sem,s5 k8,k1,k2,k3,k4,k5,k6,k7,s5 ho0,s5 hn0,j5,hlo,hhi]
   ·simp only[go_sem,s5 k8,k1,k2,k3,k4,k5,k6,k7,s5 ho0,s5 hn0,j5,hlo]
  have hlo:(2:Int)≤(kids.length:Int):=a6
  have hhi:(kids.length:Int)≤2:=a6
  obtain rfl:z=true:=by rw[←hz];simp[ho0,hn0,hnm,hln]
  simp only[go_sem,s5 k8,k1,k2,k3,k4,k5,k6,k7,s5 ho0,s5 hn0,j5,hlo,hhi]
 by_cases k9:kind=9
 ·rw[if_neg k1,if_neg k2,if_neg k3,if_neg k4,if_neg k5,if_neg k6,if_neg k7,if_pos (Or.inr k9)] at hz
  by_cases ho0:op=0
  case neg=>
   obtain rfl:z=false:=by rw[←hz];simp[ho0]
   simp only[go_sem,s5 k9,k1,k2,k3,k4,k5,k6,k7,k8,ho0]
  by_cases hn0:num=0
  case neg=>
   obtain rfl:z=false:=by rw[←hz];simp[hn0]
   simp only[go_sem,s5 k9,k1,k2,k3,k4,k5,k6,k7,k8,s5 ho0,hn0]
  simp only[go_sem,s5 k9,k1,k2,k3,k4,k5,k6,k7,k8,s5 ho0,s5 hn0]
  refine cp rfl X8 ?_
  rintro _ rfl
  cases hnm:aO false name
  ·obtain rfl:z=false:=by rw[←hz];simp[hnm]
   simp only[go_sem,s5 k9,k1,k2,k3,k4,k5,k6,k7,k8,s5 ho0,s5 hn0]
  by_cases hln:kids.length=2
  case neg=>
   obtain rfl:z=false:=by rw[←hz];simp[hln]
   by_cases hlo:(2:Int)≤(kids.length:Int)
   ·have hhi:¬(kids.length:Int)≤2:=a6
    simp only[go_sem,s5 k9,k1,k2,k3,k4,k5,k6,k7,k8,s5 ho0,s5 hn0,j5,hlo,hhi]
   ·simp only[go_sem,s5 k9,k1,k2,k3,k4,k5,k6,k7,k8,s5 ho0,s5 hn0,j5,hlo]
  have hlo:(2:Int)≤(kids.length:Int):=a6
  have hhi:(kids.length:Int)≤2:=a6
  obtain rfl:z=true:=by rw[←hz];simp[ho0,hn0,hnm,hln]
  simp only[go_sem,s5 k9,k1,k2,k3,k4,k5,k6,k7,k8,s5 ho0,s5 hn0,j5,hlo,hhi]
 obtain rfl:z=false:=by rw[←hz];simp[k1,k2,k3,k4,k5,k6,k7,k8,k9]
 simp only[go_sem,k1,k2,k3,k4,k5,k6,k7,k8,k9]
end
section
attribute [local congr] Go.Am.ite_cc
open Go Go.Am Go.Asm
open Go.Src (cO aO oT oU jG dW szE bF Ex Stm)
theorem vu {o:bE} (ho:gK o):∀(N:Nat) (l:List Ex) (lv:Nat),bF l≤N→N≤1000000000→lv≤25→bi Tryz.prog 3 o 93 [jd l,iv .i64 lv] (· = bv (dW lv l)):=by
 intro N
 induction N using Nat.strongRecOn with
 |ind N ih=>
 intro l lv hsz hN hlv
 refine hdG Tryz.func93 rfl [.tmp 4] fun b₀ β0 s0 w0 g=>?_
 obtain⟨z,hz⟩:∃z,dW lv l=z:=⟨_,rfl⟩
 rw[hz]
 have hll:=Src.FZ l
 have hwl:=ah (k:=lv) a6
 unfold jd
 by_cases hbad:0<l.length∧24<lv
 ·have h1:(0:Int)<(l.length:Int):=a6
  have h2:(24:Int)<(lv:Int):=a6
  obtain rfl:z=false:=by
   rw[←hz]
   cases l with
   |nil=>simp at hbad
   |cons e l=>obtain⟨kind,op,num,name,kids⟩:=e;simp[dW,jG];omega
  simp only[go_sem,j5,h1,h2]
 by_cases hl0:l=[]
 ·subst hl0
  obtain rfl:z=true:=by rw[←hz];simp[dW]
  exact Wa
 have hlp:0<l.length:=R7.2 hl0
 have hc:(0:Int)<(l.length:Int):=a6
 have hc2:¬(24:Int)<(lv:Int):=a6
 simp only[go_sem,j5,hc,hc2]
 refine ai (fun m st=>∃k:Nat,m+k=l.length∧(l.take k).all (jG lv)=true∧st.f 1=iv .i64 lv∧st.f 14=.one (.d (.sl (l.map exD)))∧st.f 15=iv .i64 l.length∧st.f 16=iv .i64 k) l.length ?_ ?_
 ·exact Xk
 rintro m f g1 ob1 ⟨k,hk,hall,q1,q14,q15,q16⟩
 simp only at q1 q14 q15 q16
 have hw:=ah (k:=k) a6
 by_cases hlt:k<l.length
 case neg=>
  have hki:¬(k:Int)<(l.length:Int):=a6
  obtain rfl:k=l.length:=a6
  rw[l5 (l0 _)] at hall
  obtain rfl:z=true:=by rw[←hz,Src.xL];exact hall
  simp only[go_sem,q15,q16,hki]
 have hki:(k:Int)<(l.length:Int):=a6
 have hk0:(0:Int)≤(k:Int):=a6
 obtain⟨e,he⟩:=getq hlt
 obtain⟨kind,op,num,name,kids⟩:=e
 have hszk:=Src.Jq (l6 he)
 rw[szE] at hszk
 have hE:exD (.mk kind op num name kids)=[.int .i64 kind,.int .i64 op,.int .u32 num,.str name,.sl (kids.map exD)]:=by simp only[exD,aZ]
 have hF:=yL ho (.mk kind op num name kids)
 have hK:=ih (bF kids) a6 kids (lv+1) (l0 _) a6 a6
 unfold exV at hF
 unfold jd at hK
 rw[hE] at hF
 simp only[l7,v8] at hF
 have hl24:lv≤24:=a6
 simp only[go_sem,q1,q14,q15,q16,hki,hk0,he,hE]
 refine cp rfl Za ?_
 rintro _ rfl
 cases hf:oT kind op num name kids.length
 ·obtain rfl:z=false:=by rw[←hz,Src.xL];exact Src.all_false he (by simp[jG,hf])
  simp only[go_sem,hf]
 simp only[go_sem,q1,hwl]
 refine cp rfl (by simp only[go_sem,q1,hwl];exact hK) ?_
 rintro _ rfl
 cases hr:dW (lv+1) kids
 ·obtain rfl:z=false:=by rw[←hz,Src.xL];exact Src.all_false he (by simp[jG,hf,hr])
  exact VU
 ·simp only[go_sem,q16,hw]
  refine ae (m-1) a6 ⟨k+1,a6,Src.RO hall he (by simp[jG,hf,hr,hl24]),?_⟩
  simp only[go_sem,q1,q14,q15]
theorem yM {o:bE} (ho:gK o) (e:Stm):bi Tryz.prog 3 o 92 [smV e] (· = bv (match e with|.mk kind name e th el=>oU kind name e.length th.length el.length)):=by
 obtain⟨kind,name,e,th,el⟩:=e
 refine hdG Tryz.func92 rfl [.tmp 2] fun b₀ β0 s0 w0 g=>?_
 simp only
 obtain⟨z,hz⟩:∃z,oU kind name e.length th.length el.length=z:=⟨_,rfl⟩
 rw[hz]
 unfold smV
 simp only[smD,aZ,ft,l7,v8]
 unfold oU at hz
 by_cases k1:kind=1
 ·rw[if_pos k1] at hz
  simp only[go_sem,s5 k1]
  refine cp rfl Yg ?_
  rintro _ rfl
  cases hnm:aO true name
  ·obtain rfl:z=false:=by rw[←hz];simp[hnm]
   simp only[go_sem,s5 k1]
  have e0:(0:Int)≤(e.length:Int):=a6
  by_cases hlo:(e.length:Int)<1
  ·obtain rfl:z=false:=by rw[←hz,hnm,w7];exact y9 a6
   simp only[go_sem,s5 k1,j5,hlo]
  by_cases hhi:(1:Int)<(e.length:Int)
  ·obtain rfl:z=false:=by rw[←hz,hnm,w7];exact y9 a6
   simp only[go_sem,s5 k1,j5,hlo,hhi]
  by_cases hth:(th.length:Int)=0
  case neg=>
   obtain rfl:z=false:=by rw[←hz,hnm,w7];exact y9 a6
   simp only[go_sem,s5 k1,j5,hlo,hhi,hth]
  by_cases hel:(el.length:Int)=0
  case neg=>
   obtain rfl:z=false:=by rw[←hz,hnm,w7];exact y9 a6
   simp only[go_sem,s5 k1,j5,hlo,hhi,hth,hel]
  obtain rfl:z=true:=by rw[←hz,hnm,w7];exact E0 a6
  simp only[go_sem,s5 k1,j5,hlo,hhi,hth,hel]
 by_cases k2:kind=2
 ·rw[if_neg k1,if_pos k2] at hz
  simp only[go_sem,s5 k2,k1]
  refine cp rfl Yg ?_
  rintro _ rfl
  cases hnm:aO true name
  ·obtain rfl:z=false:=by rw[←hz];simp[hnm]
   simp only[go_sem,s5 k2,k1]
  have e0:(0:Int)≤(e.length:Int):=a6
  by_cases hlo:(e.length:Int)<2
  ·obtain rfl:z=false:=by rw[←hz,hnm,w7];exact y9 a6
   simp only[go_sem,s5 k2,k1,j5,hlo]
  by_cases hhi:(2:Int)<(e.length:Int)
  ·obtain rfl:z=false:=by rw[←hz,hnm,w7];exact y9 a6
   simp only[go_sem,s5 k2,k1,j5,hlo,hhi]
  by_cases hth:(th.length:Int)=0
  case neg=>
   obtain rfl:z=false:=by rw[←hz,hnm,w7];exact y9 a6
   simp only[go_sem,s5 k2,k1,j5,hlo,hhi,hth]
  by_cases hel:(el.length:Int)=0
  case neg=>
   obtain rfl:z=false:=by rw[←hz,hnm,w7];exact y9 a6
   simp only[go_sem,s5 k2,k1,j5,hlo,hhi,hth,hel]
  obtain rfl:z=true:=by rw[←hz,hnm,w7];exact E0 a6
  simp only[go_sem,s5 k2,k1,j5,hlo,hhi,hth,hel]
 by_cases k3:kind=3
 ·rw[if_neg k1,if_neg k2,if_pos k3] at hz
  simp only[go_sem,s5 k3,k1,k2]
  refine cp rfl X8 ?_
  rintro _ rfl
  cases hnm:aO false name
  ·obtain rfl:z=false:=by rw[←hz];simp[hnm]
   simp only[go_sem,s5 k3,k1,k2]
  have e0:(0:Int)≤(e.length:Int):=a6
  by_cases hlo:(e.length:Int)<1
  ·obtain rfl:z=false:=by rw[←hz,hnm,w7];exact y9 a6
   simp only[go_sem,s5 k3,k1,k2,j5,hlo]
  by_cases hhi:(1:Int)<(e.length:Int)
  ·obtain rfl:z=false:=by rw[←hz,hnm,w7];exact y9 a6
   simp only[go_sem,s5 k3,k1,k2,j5,hlo,hhi]
  by_cases hth:(th.length:Int)=0
  case neg=>
   obtain rfl:z=false:=by rw[←hz,hnm,w7];exact y9 a6
   simp only[go_sem,s5 k3,k1,k2,j5,hlo,hhi,hth]
  by_cases hel:(el.length:Int)=0
  case neg=>
   obtain rfl:z=false:=by rw[←hz,hnm,w7];exact y9 a6
   simp only[go_sem,s5 k3,k1,k2,j5,hlo,hhi,hth,hel]
  obtain rfl:z=true:=by rw[←hz,hnm,w7];exact E0 a6
  simp only[go_sem,s5 k3,k1,k2,j5,hlo,hhi,hth,hel]
 by_cases k4:kind=4
 ·rw[if_neg k1,if_neg k2,if_neg k3,if_pos k4] at hz
  simp only[go_sem,s5 k4,k1,k2,k3]
  refine cp rfl X8 ?_
  rintro _ rfl
  cases hnm:aO false name
  ·obtain rfl:z=false:=by rw[←hz];simp[hnm]
   simp only[go_sem,s5 k4,k1,k2,k3]
  have e0:(0:Int)≤(e.length:Int):=a6
  by_cases hlo:(e.length:Int)<1
  ·obtain rfl:z=false:=by rw[←hz,hnm,w7];exact y9 a6
   simp only[go_sem,s5 k4,k1,k2,k3,j5,hlo]
  by_cases hhi:(1:Int)<(e.length:Int)
  ·obtain rfl:z=false:=by rw[←hz,hnm,w7];exact y9 a6
   simp only[go_sem,s5 k4,k1,k2,k3,j5,hlo,hhi]
  obtain rfl:z=true:=by rw[←hz,hnm,w7];exact E0 a6
  simp only[go_sem,s5 k4,k1,k2,k3,j5,hlo,hhi]
 by_cases k5:kind=5
 ·rw[if_neg k1,if_neg k2,if_neg k3,if_neg k4,if_pos k5] at hz
  simp only[go_sem,s5 k5,k1,k2,k3,k4]
  refine cp rfl X8 ?_
  rintro _ rfl
  cases hnm:aO false name
  ·obtain rfl:z=false:=by rw[←hz];simp[hnm]
   simp only[go_sem,s5 k5,k1,k2,k3,k4]
  have e0:(0:Int)≤(e.length:Int):=a6
  by_cases hlo:(e.length:Int)<1
  ·obtain rfl:z=false:=by rw[←hz,hnm,w7];exact y9 a6
   simp only[go_sem,s5 k5,k1,k2,k3,k4,j5,hlo]
  by_cases hhi:(1:Int)<(e.length:Int)
  ·obtain rfl:z=false:=by rw[←hz,hnm,w7];exact y9 a6
   simp only[go_sem,s5 k5,k1,k2,k3,k4,j5,hlo,hhi]
  by_cases hel:(el.length:Int)=0
  case neg=>
   obtain rfl:z=false:=by rw[←hz,hnm,w7];exact y9 a6
   simp only[go_sem,s5 k5,k1,k2,k3,k4,j5,hlo,hhi,hel]
  obtain rfl:z=true:=by rw[←hz,hnm,w7];exact E0 a6
  simp only[go_sem,s5 k5,k1,k2,k3,k4,j5,hlo,hhi,hel]
 by_cases k6:kind=6
 ·rw[if_neg k1,if_neg k2,if_neg k3,if_neg k4,if_neg k5,if_pos k6] at hz
  simp only[go_sem,s5 k6,k1,k2,k3,k4,k5]
  refine cp rfl Yg ?_
  rintro _ rfl
  cases hnm:aO true name
  ·obtain rfl:z=false:=by rw[←hz];simp[hnm]
   simp only[go_sem,s5 k6,k1,k2,k3,k4,k5]
  have e0:(0:Int)≤(e.length:Int):=a6
  have hlo:¬(e.length:Int)<0:=a6
  by_cases hhi:(6:Int)<(e.length:Int)
  ·obtain rfl:z=false:=by rw[←hz,hnm,w7];exact y9 a6
   simp only[go_sem,s5 k6,k1,k2,k3,k4,k5,j5,hlo,hhi]
  by_cases hth:(th.length:Int)=0
  case neg=>
   obtain rfl:z=false:=by rw[←hz,hnm,w7];exact y9 a6
   simp only[go_sem,s5 k6,k1,k2,k3,k4,k5,j5,hlo,hhi,hth]
  by_cases hel:(el.length:Int)=0
  case neg=>
   obtain rfl:z=false:=by rw[←hz,hnm,w7];exact y9 a6
   simp only[go_sem,s5 k6,k1,k2,k3,k4,k5,j5,hlo,hhi,hth,hel]
  obtain rfl:z=true:=by rw[←hz,hnm,w7];exact E0 a6
  simp only[go_sem,s5 k6,k1,k2,k3,k4,k5,j5,hlo,hhi,hth,hel]
 by_cases k7:kind=7
 ·rw[if_neg k1,if_neg k2,if_neg k3,if_neg k4,if_neg k5,if_neg k6,if_pos k7] at hz
  simp only[go_sem,s5 k7,k1,k2,k3,k4,k5,k6]
  refine cp rfl X8 ?_
  rintro _ rfl
  cases hnm:aO false name
  ·obtain rfl:z=false:=by rw[←hz];simp[hnm]
   simp only[go_sem,s5 k7,k1,k2,k3,k4,k5,k6]
  have e0:(0:Int)≤(e.length:Int):=a6
  have hlo:¬(e.length:Int)<0:=a6
  by_cases hhi:(1:Int)<(e.length:Int)
  ·obtain rfl:z=false:=by rw[←hz,hnm,w7];exact y9 a6
   simp only[go_sem,s5 k7,k1,k2,k3,k4,k5,k6,j5,hlo,hhi]
  by_cases hth:(th.length:Int)=0
  case neg=>
   obtain rfl:z=false:=by rw[←hz,hnm,w7];exact y9 a6
   simp only[go_sem,s5 k7,k1,k2,k3,k4,k5,k6,j5,hlo,hhi,hth]
  by_cases hel:(el.length:Int)=0
  case neg=>
   obtain rfl:z=false:=by rw[←hz,hnm,w7];exact y9 a6
   simp only[go_sem,s5 k7,k1,k2,k3,k4,k5,k6,j5,hlo,hhi,hth,hel]
  obtain rfl:z=true:=by rw[←hz,hnm,w7];exact E0 a6
  simp only[go_sem,s5 k7,k1,k2,k3,k4,k5,k6,j5,hlo,hhi,hth,hel]
 obtain rfl:z=false:=by rw[←hz];simp[k1,k2,k3,k4,k5,k6,k7]
 simp only[go_sem,k1,k2,k3,k4,k5,k6,k7]
end
section
attribute [local congr] Go.Am.ite_cc
open Go Go.Am Go.Asm
open Go.Src (cO aO oT oU jG dW iS dG eC fF dS szE bF szS bu Ex Stm)
theorem vv {o:bE} (ho:gK o):∀(N:Nat) (l:List Stm) (lv:Nat),bu l≤N→N≤1000000000→lv≤25→bi Tryz.prog 3 o 65 [jy l,iv .i64 lv] (· = bv (dG lv l)):=by
 intro N
 induction N using Nat.strongRecOn with
 |ind N ih=>
 intro l lv hsz hN hlv
 refine hdG Tryz.func65 rfl [.tmp 4] fun b₀ β0 s0 w0 g=>?_
 obtain⟨z,hz⟩:∃z,dG lv l=z:=⟨_,rfl⟩
 rw[hz]
 have hll:=Src.Ga l
 have hwl:=ah (k:=lv) a6
 unfold jy
 by_cases hbad:0<l.length∧24<lv
 ·have h1:(0:Int)<(l.length:Int):=a6
  have h2:(24:Int)<(lv:Int):=a6
  obtain rfl:z=false:=by
   rw[←hz]
   cases l with
   |nil=>simp at hbad
   |cons e l=>
     obtain⟨kind,name,e,th,el⟩:=e
     have:¬lv≤24:=a6
     simp[dG,iS,this]
  simp only[go_sem,j5,h1,h2]
 by_cases hl0:l=[]
 ·subst hl0
  obtain rfl:z=true:=by rw[←hz];simp[dG]
  exact Wa
 have hlp:0<l.length:=R7.2 hl0
 have hc:(0:Int)<(l.length:Int):=a6
 have hc2:¬(24:Int)<(lv:Int):=a6
 simp only[go_sem,j5,hc,hc2]
 refine ai (fun m st=>∃k:Nat,m+k=l.length∧(l.take k).all (iS lv)=true∧st.f 1=iv .i64 lv∧st.f 14=.one (.d (.sl (l.map smD)))∧st.f 15=iv .i64 l.length∧st.f 16=iv .i64 k) l.length ?_ ?_
 ·exact Xk
 rintro m f g1 ob1 ⟨k,hk,hall,q1,q14,q15,q16⟩
 simp only at q1 q14 q15 q16
 have hw:=ah (k:=k) a6
 by_cases hlt:k<l.length
 case neg=>
  have hki:¬(k:Int)<(l.length:Int):=a6
  obtain rfl:k=l.length:=a6
  rw[l5 (l0 _)] at hall
  obtain rfl:z=true:=by rw[←hz,Src.xM];exact hall
  simp only[go_sem,q15,q16,hki]
 have hki:(k:Int)<(l.length:Int):=a6
 have hk0:(0:Int)≤(k:Int):=a6
 obtain⟨e,he⟩:=getq hlt
 obtain⟨kind,name,es,th,el⟩:=e
 have hszk:=Src.Jr (l6 he)
 rw[szS] at hszk
 have hE:smD (.mk kind name es th el)=[.int .i64 kind,.str name,.sl (es.map exD),.sl (th.map smD),.sl (el.map smD)]:=by simp only[smD,aZ,ft]
 have hF:=yM ho (.mk kind name es th el)
 have hX:=vu ho (bF es) es (lv+1) (l0 _) a6 a6
 have hT:=ih (bu th) a6 th (lv+1) (l0 _) a6 a6
 have hL:=ih (bu el) a6 el (lv+1) (l0 _) a6 a6
 unfold smV at hF
 unfold jd at hX
 unfold jy at hT hL
 rw[hE] at hF
 simp only[l7,v8] at hF
 have hl24:lv≤24:=a6
 simp only[go_sem,q1,q14,q15,q16,hki,hk0,he,hE]
 refine cp rfl Za ?_
 rintro _ rfl
 cases hf:oU kind name es.length th.length el.length
 ·obtain rfl:z=false:=by rw[←hz,Src.xM];exact Src.all_false he (by simp[iS,hf])
  simp only[go_sem,hf]
 simp only[go_sem,q1,hwl]
 refine cp rfl (by simp only[go_sem,q1,hwl];exact hX) ?_
 rintro _ rfl
 cases hr:dW (lv+1) es
 ·obtain rfl:z=false:=by rw[←hz,Src.xM];exact Src.all_false he (by simp[iS,hf,hr])
  exact VU
 simp only[go_sem,q1,hwl]
 refine cp rfl (by simp only[go_sem,q1,hwl];exact hT) ?_
 rintro _ rfl
 cases ht:dG (lv+1) th
 ·obtain rfl:z=false:=by rw[←hz,Src.xM];exact Src.all_false he (by simp[iS,hf,hr,ht])
  exact VU
 simp only[go_sem,q1,hwl]
 refine cp rfl (by simp only[go_sem,q1,hwl];exact hL) ?_
 rintro _ rfl
 cases hel:dG (lv+1) el
 ·obtain rfl:z=false:=by rw[←hz,Src.xM];exact Src.all_false he (by simp[iS,hf,hr,ht,hel])
  exact VU
 ·simp only[go_sem,q16,hw]
  refine ae (m-1) a6 ⟨k+1,a6,Src.RO hall he (by simp[iS,hf,hr,ht,hel,hl24]),?_⟩
  simp only[go_sem,q1,q14,q15]
def szP (p:Src.Prog):Nat:=p.vars.length+p.arrays.length+p.funcs.length+(p.funcs.map fun f=>f.params.length+f.locals.length+bu f.body).sum
theorem mO {p:Src.Prog}{f:Src.Fn} (h:f∈p.funcs):f.params.length+f.locals.length+bu f.body≤szP p:=by
 have:∀l:List Src.Fn,f∈l→f.params.length+f.locals.length+bu f.body≤(l.map fun f=>f.params.length+f.locals.length+bu f.body).sum:=by
  intro l
  induction l with
  |nil=>intro h;cases h
  |cons x l ih=>
    intro h
    rw[l7,F9]
    rcases x9.1 h with rfl|h
    ·omega
    ·have:=ih h;omega
 have:=this _ h
 unfold szP
 omega
theorem Ay {o:bE} (ho:gK o) (p:Src.Prog) (hsz:szP p≤1000000000):bi Tryz.prog 3 o 36 [eF p] (· = bv (dS p)):=by
 refine hdG Tryz.func36 rfl [.tmp 2] fun b₀ β0 s0 w0 g=>?_
 obtain⟨z,hz⟩:∃z,dS p=z:=⟨_,rfl⟩
 rw[hz]
 obtain⟨vs,ars,fs⟩:=p
 have hszp:=hsz
 unfold szP at hsz
 simp only at hsz
 unfold dS at hz
 simp only at hz
 unfold eF iX
 by_cases h1:fs.length<1
 ·have h1i:(fs.length:Int)<1:=a6
  obtain rfl:z=false:=by rw[←hz];simp;omega
  simp only[go_sem,j5,h1i]
 have h1i:¬(fs.length:Int)<1:=a6
 by_cases h2:64<fs.length
 ·have h2i:(64:Int)<(fs.length:Int):=a6
  obtain rfl:z=false:=by rw[←hz];simp;omega
  simp only[go_sem,j5,h1i,h2i]
 have h2i:¬(64:Int)<(fs.length:Int):=a6
 have hA:=nA ho vs a6
 unfold jx at hA
 simp only[go_sem,j5,h1i,h2i]
 refine cp rfl (by simp only[go_sem];exact hA) ?_
 rintro _ rfl
 cases hv:vs.all cO
 ·obtain rfl:z=false:=by rw[←hz];simp[hv]
  exact VU
 simp only[go_sem,j5]
 refine ai (fun m st=>∃k:Nat,m+k=ars.length∧(ars.take k).all fF=true∧st.f 1=.one (.ptr 1 (st.gen 1) 0)∧st.obj 1=some [.d (.sl (vs.map fun s=>[.str s])),.d (.sl (ars.map arD)),.d (.sl (fs.map fnD))]∧st.f 24=.one (.d (.sl (ars.map arD)))∧st.f 25=iv .i64 ars.length∧st.f 26=iv .i64 k) ars.length ?_ ?_
 ·exact Xk
 clear g
 rintro m f g ob ⟨k,hk,hall,q1,o1,q24,q25,q26⟩
 simp only at q1 o1 q24 q25 q26
 have hw:=ah (k:=k) a6
 by_cases hlt:k<ars.length
 ·have hki:(k:Int)<(ars.length:Int):=a6
  have hk0:(0:Int)≤(k:Int):=a6
  obtain⟨⟨nm,sz⟩,he⟩:=getq hlt
  simp only[go_sem,q1,o1,q24,q25,q26,hki,hk0,he,arD]
  refine cp rfl (by simp only[go_sem];exact lf ho nm) ?_
  rintro _ rfl
  cases hb:cO nm
  ·obtain rfl:z=false:=by rw[←hz,Src.all_false (p:=fF) he (by simp[fF,hb])];simp
   exact VU
  by_cases hs1:sz<1
  ·obtain rfl:z=false:=by rw[←hz,Src.all_false (p:=fF) he (by simp[fF,hb];omega)];simp
   simp only[go_sem,hs1]
  by_cases hs2:4096<sz
  ·obtain rfl:z=false:=by rw[←hz,Src.all_false (p:=fF) he (by simp[fF,hb];omega)];simp
   simp only[go_sem,hs1,hs2]
  simp only[go_sem,hs1,hs2,q26,hw]
  refine ae (m-1) a6 ⟨k+1,a6,Src.RO hall he (by simp[fF,hb];omega),?_⟩
  simp only[go_sem,q1,o1,q24,q25]
 have hki:¬(k:Int)<(ars.length:Int):=a6
 obtain rfl:k=ars.length:=a6
 rw[l5 (l0 _)] at hall
 simp only[go_sem,q1,o1,q25,q26,hki,j5]
 refine ai (fun m st=>∃k:Nat,m+k=fs.length∧(fs.take k).all eC=true∧st.f 46=.one (.d (.sl (fs.map fnD)))∧st.f 47=iv .i64 fs.length∧st.f 48=iv .i64 k) fs.length ?_ ?_
 ·exact Xk
 clear q1 o1 q24 q25 q26 hlt hki hw hk
 rintro m f g ob ⟨k,hk,hallF,q46,q47,q48⟩
 simp only at q46 q47 q48
 have hw:=ah (k:=k) a6
 by_cases hlt:k<fs.length
 case neg=>
  have hki:¬(k:Int)<(fs.length:Int):=a6
  obtain rfl:k=fs.length:=a6
  rw[l5 (l0 _)] at hallF
  obtain rfl:z=true:=by rw[←hz,hall,hallF,hv,E0 (show 1≤fs.length∧fs.length≤64 by omega)];rfl
  simp only[go_sem,q47,q48,hki]
 have hki:(k:Int)<(fs.length:Int):=a6
 have hk0:(0:Int)≤(k:Int):=a6
 obtain⟨x,he⟩:=getq hlt
 have hszf:=mO (p:=⟨vs,ars,fs⟩) (l6 he)
 obtain⟨nm,ps,ls,w,body⟩:=x
 simp only at hszf
 have hAp:=nA ho ps a6
 have hAl:=nA ho ls a6
 have hB:=vv ho (bu body) body 1 (l0 _) a6 a6
 unfold jx at hAp hAl
 unfold jy at hB
 have hfl:∀{y:Bool},eC ⟨nm,ps,ls,w,body⟩=y→y=false→z=false:=fun h1 h2=>by rw[←hz,Src.all_false (p:=eC) he (by rw[h1,h2])];simp
 simp only[go_sem,q46,q47,q48,hki,hk0,he,fnD]
 refine cp rfl (by simp only[go_sem];exact lf ho nm) ?_
 rintro _ rfl
 cases hb:cO nm
 ·obtain rfl:=hfl rfl (by simp[eC,hb])
  exact VU
 by_cases hp6:6<ps.length
 ·have hp6i:(6:Int)<(ps.length:Int):=a6
  obtain rfl:=hfl rfl (by simp[eC,hb];omega)
  simp only[go_sem,j5,hp6i]
 have hp6i:¬(6:Int)<(ps.length:Int):=a6
 have hp6':ps.length≤6:=a6
 simp only[go_sem,j5,hp6i]
 refine cp rfl (by simp only[go_sem];exact hAp) ?_
 rintro _ rfl
 cases hb2:ps.all cO
 ·obtain rfl:=hfl rfl (by simp only[eC,hb,hp6',hb2];simp)
  exact VU
 simp only[go_sem]
 refine cp rfl (by simp only[go_sem];exact hAl) ?_
 rintro _ rfl
 cases hb3:ls.all cO
 ·obtain rfl:=hfl rfl (by simp only[eC,hb,hp6',hb2,hb3];simp)
  exact VU
 simp only[go_sem]
 refine cp rfl (by simp only[go_sem];exact hB) ?_
 rintro _ rfl
 cases hb4:dG 1 body
 ·obtain rfl:=hfl rfl (by simp only[eC,hb,hp6',hb2,hb3,hb4];simp)
  exact VU
 simp only[go_sem,q48,hw]
 refine ae (m-1) a6 ⟨k+1,a6,Src.RO hallF he (by simp only[eC,hb,hp6',hb2,hb3,hb4];simp),?_⟩
 simp only[go_sem,q46,q47]
end
end Go.Proofs.YtgiigidgdhplfaaGreatDoor
namespace Go.Src
section
open Go.Asm (Str digit letter iy fZ)
section
def PR.Sz {α:Type} (sz:α→Nat) (x n:Nat) (p:PR α):Prop:=∀a m,p=.ok a m→sz a+n≤x+m
theorem PR.bind_sz {α β:Type}{sa:α→Nat}{sb:β→Nat}{x y n:Nat}{p:PR α}{f:α→Nat→PR β} (h:p.Sz sa x n) (h':∀a m,(f a m).Sz sb (sa a+y) m):(p.bind f).Sz sb (x+y) n:=by
 intro b m hb
 cases p with
 |ok a k=>
   have h1:=h a k rfl
   have h2:=h' a k b m hb
   omega
 |no k=>cases hb
variable {k n:Nat}{α:Type}{s:Str}{sa:α→Nat}
theorem PR.sz_no{x n m:Nat}:(PR.no m:PR α).Sz sa x n:=fun _ _ e=>by cases e
theorem PR.sz_ok{x n m:Nat}{a:α} (h:sa a+n≤x+m):(PR.ok a m).Sz sa x n:=fun b k e=>by cases e;exact h
theorem PR.Sz.of{x n y m:Nat}{p:PR α} (h:p.Sz sa x n) (hy:x+m≤y+n):p.Sz sa y m:=fun a k e=>by have:=h a k e;omega
def z0 {α:Type} (_:α):Nat:=0
theorem xN:∀(l m:List Ex),bF (l++m)=bF l+bF m
 |[],m=>by simp[bF]
 |e::l,m=>by simp only[z8,bF,xN l m];omega
theorem xO:∀(l m:List Stm),bu (l++m)=bu l+bu m
 |[],m=>by simp[bu]
 |e::l,m=>by simp only[z8,bu,xO l m];omega
section
variable {ts:List Tok}
theorem kF:(takeN ts k n).Sz (fun _=>1) 0 n:=fun a m h=>by have:=eZ a m h;show 1+n≤0+m;omega
theorem bY {l:List Str}{n:Nat}:(bt ts l n).Sz (fun _=>0) 0 n:=fun a m h=>by have:=bW a m h;show 0+n≤0+m;omega
mutual
theorem fy:∀(k least n:Nat),(cw ts k least n).Sz szE 0 n
 |0,_,_=>by unfold cw;exact PR.sz_no
 |k+1,least,n=>by
   unfold cw
   exact PR.bind_sz (y:=0) (xQ k n) fun a m=>xP k least a m
theorem xP:∀(k least:Nat) (left:Ex) (n:Nat),(fW ts k least left n).Sz szE (szE left) n
 |0,_,_,_=>by unfold fW;exact PR.sz_no
 |k+1,least,left,n=>by
   unfold fW
   split
   ·exact PR.sz_ok a6
   ·exact(PR.bind_sz (x:=0) (y:=szE left+1) (fy k _ (n+1)) fun b q=>(xP k least _ q).of Ys).of a6
theorem xQ:∀(k n:Nat),(eH ts k n).Sz szE 0 n
 |0,_=>by unfold eH;exact PR.sz_no
 |k+1,n=>by
   unfold eH
   split
   ·exact PR.bind_sz (y:=0) kF fun a m=>PR.sz_ok Ys
   split
   ·exact(PR.bind_sz (x:=0) (y:=1) bY fun a m=>PR.sz_ok Ys).of (m:=n) (y:=0) (n:=n+1) a6
   split
   ·exact(PR.bind_sz (x:=0) (y:=0) (fy k 1 (n+1)) fun a m=>(PR.bind_sz (x:=0) (y:=szE a) bY fun b q=>PR.sz_ok (sa:=szE) a6).of a6).of (m:=n) (y:=0) (n:=n+1) a6
   split
   ·exact(PR.bind_sz (x:=0) (y:=1) (xQ k (n+1)) fun a m=>PR.sz_ok Ys).of (m:=n) (y:=0) (n:=n+1) a6
   refine PR.bind_sz (x:=0) (y:=0) kF fun a m=>?_
   split
   ·exact(PR.bind_sz (x:=0) (y:=1) (fy k 1 (m+1)) fun a m=>(PR.bind_sz (x:=0) (y:=szE a+1) bY fun b q=>PR.sz_ok Ys).of a6).of (n:=m+1) a6
   split
   ·exact(PR.bind_sz (x:=0) (y:=1) (xR k (m+1)) fun a m=>PR.sz_ok Ys).of (n:=m+1) a6
   ·exact PR.sz_ok Ys
theorem xR:∀(k n:Nat),(fb ts k n).Sz bF 0 n
 |0,_=>by unfold fb;exact PR.sz_no
 |k+1,n=>by
   unfold fb
   split
   ·exact PR.sz_ok (by simp only[bF];omega)
   ·exact PR.bind_sz (y:=0) (fy k 1 n) fun a m=>(xS k [a] m).of (by simp only[bF];omega)
theorem xS:∀(k:Nat) (l:List Ex) (n:Nat),(fX ts k l n).Sz bF (bF l) n
 |0,_,_=>by unfold fX;exact PR.sz_no
 |k+1,l,n=>by
   unfold fX
   split
   ·exact(PR.bind_sz (x:=0) (y:=bF l) (fy k 1 (n+1)) fun a m=>(xS k (l++[a]) m).of (by rw[xN];simp only[bF];omega)).of a6
   ·exact(PR.bind_sz (x:=0) (y:=bF l) bY fun b q=>PR.sz_ok (sa:=bF) a6).of a6
end
theorem pN:(iR ts k n).Sz bF 0 n:=
 PR.bind_sz (x:=0) (y:=0) bY fun _ m=>(PR.bind_sz (x:=0) (y:=0) (fy k 1 m) fun e m=>(PR.bind_sz (x:=0) (y:=szE e) bY fun _ _=>PR.sz_ok (by simp only[bF];omega)).of a6).of a6
theorem Ct:(iu ts k n).Sz szS 0 n:=by
 unfold iu
 refine PR.bind_sz (x:=0) (y:=0) kF fun t m=>((PR.bind_sz (x:=1) (y:=0) (sa:=szS) ?_ fun s q=>(PR.bind_sz (x:=0) (y:=szS s) bY fun _ _=>PR.sz_ok (sa:=szS) a6).of (m:=q) a6).of (n:=m) (m:=m) a6)
 split
 ·exact(PR.bind_sz (x:=0) (y:=1) (fy k 1 (m+1)) fun _ _=>PR.sz_ok YO).of a6
 split
 ·exact(PR.bind_sz (x:=0) (y:=1) (fy k 1 (m+1)) fun i _=>(PR.bind_sz (x:=0) (y:=szE i+1) bY fun _ q=>(PR.bind_sz (x:=0) (y:=szE i+1) (fy k 1 q) fun _ _=>PR.sz_ok YO).of a6).of a6).of a6
 split
 ·exact(PR.bind_sz (x:=0) (y:=1) (xR k (m+1)) fun _ _=>PR.sz_ok YY).of a6
 ·exact PR.sz_no
mutual
theorem Gb:∀(k n:Nat),(ja ts k n).Sz szS 0 n
 |0,_=>by unfold ja;exact PR.sz_no
 |k+1,n=>by
   unfold ja
   split
   ·exact(PR.bind_sz (x:=0) (y:=1) pN fun e _=>(PR.bind_sz (x:=0) (y:=bF e+1) bY fun _ _=>PR.sz_ok YY).of a6).of (n:=n+1) a6
   split
   ·split
    ·exact PR.sz_ok YO
    ·exact(PR.bind_sz (x:=0) (y:=1) (fy k 1 (n+1)) fun e _=>(PR.bind_sz (x:=0) (y:=szE e+1) bY fun _ _=>PR.sz_ok YO).of a6).of (n:=n+1) a6
   split
   ·refine(PR.bind_sz (x:=0) (y:=1) pN fun e m=>(PR.bind_sz (x:=0) (y:=bF e+1) (sK k m) fun th q=>?_).of a6).of (n:=n+1) a6
    split
    ·exact(PR.bind_sz (x:=0) (y:=bu th+bF e+1) (sK k (q+1)) fun _ _=>PR.sz_ok (by simp only[szS];omega)).of a6
    ·exact PR.sz_ok YY
   split
   ·exact(PR.bind_sz (x:=0) (y:=1) pN fun e m=>(PR.bind_sz (x:=0) (y:=bF e+1) (sK k m) fun _ _=>PR.sz_ok YY).of a6).of (n:=n+1) a6
   ·exact Ct
theorem sK:∀(k n:Nat),(gX ts k n).Sz bu 0 n
 |0,_=>by unfold gX;exact PR.sz_no
 |k+1,n=>by
   unfold gX
   exact PR.bind_sz (x:=0) (y:=0) bY fun _ m=>(pO k [] m).of (by simp only[bu];omega)
theorem pO:∀(k:Nat) (l:List Stm) (n:Nat),(cN ts k l n).Sz bu (bu l) n
 |0,_,_=>by unfold cN;exact PR.sz_no
 |k+1,l,n=>by
   unfold cN
   split
   ·exact PR.sz_ok a6
   ·exact(PR.bind_sz (x:=0) (y:=bu l) (Gb k n) fun a m=>(pO k _ m).of (by rw[xO];simp only[bu];omega)).of a6
end
theorem xT:∀{k:Nat}{l:List Fn}{n:Nat},(lF ts k l n).In ts.length n
 |0,_,_=>by unfold lF;exact PR.in_no
 |k+1,l,n=>by
   unfold lF
   split
   ·exact PR.bind_in AW fun _ _=>xT
   ·exact PR.in_here
theorem Gc:(lG ts k n).In ts.length n:=PR.bind_in sJ fun _ _=>PR.bind_in AW fun _ _=>PR.bind_in xT fun _ _=>PR.in_here
theorem pP:(dR ts k n).Sz List.length 0 n:=fun a m h=>by have:=zA h;omega
theorem sL:∀{k:Nat}{l:List Str}{n:Nat},(de ts k l n).Sz List.length l.length n
 |0,_,_=>by unfold de;exact PR.sz_no
 |k+1,l,n=>by
   unfold de
   split
   ·exact(PR.bind_sz (x:=0) (y:=l.length) (sa:=List.length) pP fun m q=>(PR.bind_sz (x:=0) (y:=m.length+l.length) bY fun _ _=>sL.of (by simp only[j4];omega)).of (m:=q) a6).of (n:=n+1) a6
   ·exact PR.sz_ok a6
def szF (f:Fn):Nat:=f.params.length+f.locals.length+bu f.body
theorem AX:(lL ts k n).Sz (fun f=>szF f+1) 0 n:=by
 unfold lL
 refine PR.bind_sz (x:=0) (y:=0) bY fun _ m=>(PR.bind_sz (x:=0) (y:=0) kF fun t m=>(PR.bind_sz (x:=0) (y:=1) bY fun _ m=>(PR.bind_sz (x:=0) (y:=1) (sa:=List.length) ?_ fun ps m=>(PR.bind_sz (x:=0) (y:=ps.length+1) bY fun _ m=>?_).of (n:=m) (m:=m) a6).of (n:=m) (m:=m) a6).of (m:=m) a6).of (m:=m) a6
 ·split
  ·exact pP
  ·exact PR.sz_ok (m:=m) a7
 ·have hb:∀v,((bt ts [[123]] v).bind fun _ m'=>(de ts k [] m').bind fun ls m'=>(cN ts k [] m').bind fun b m'=>(PR.ok (Fn.mk t.text ps ls (decide (ap ts m=[119,111,114,100])) b) m')).Sz (fun f=>szF f+1) (ps.length+1) v:=fun v=>
   (PR.bind_sz (x:=0) (y:=ps.length+1) bY fun _ m'=>(PR.bind_sz (x:=0) (y:=ps.length+1) (sL (l:=[])) fun ls m'=>(PR.bind_sz (x:=0) (y:=ls.length+ps.length+1) (pO k [] m') fun b m'=>PR.sz_ok (by simp only[szF];omega)).of (m:=m') a6).of (m:=m') a6).of a6
  split
  ·exact(hb (m+1)).of a6
  ·exact(hb m).of a6
theorem sM:∀{k:Nat}{l:List Str}{ars:List (Str×Int)}{n:Nat},(lE ts k l ars n).Sz (fun h=>h.1.length+h.2.length) (l.length+ars.length) n
 |0,_,_,_=>by unfold lE;exact PR.sz_no
 |k+1,l,ars,n=>by
   unfold lE
   split
   ·exact(PR.bind_sz (x:=0) (y:=l.length+ars.length) (sa:=List.length) pP fun m q=>(PR.bind_sz (x:=0) (y:=m.length+l.length+ars.length) bY fun _ _=>sM.of (by simp only[j4];omega)).of (m:=q) a6).of (n:=n+1) a6
   split
   ·exact(PR.bind_sz (x:=0) (y:=l.length+ars.length) kF fun t m=>(PR.bind_sz (x:=0) (y:=l.length+ars.length+1) bY fun _ m=>(PR.bind_sz (x:=0) (y:=l.length+ars.length+1) kF fun z m=>(PR.bind_sz (x:=0) (y:=l.length+ars.length+2) bY fun _ m=>(PR.bind_sz (x:=0) (y:=l.length+ars.length+2) bY fun _ m=>
     sM.of (m:=m) (by simp only[j4,J0];omega)).of (m:=m) a6).of (m:=m) a6).of (m:=m) a6).of (m:=m) a6).of (n:=n+1) a6
   ·exact PR.sz_ok (by simp only;omega)
def xU (l:List Fn):Nat:=l.length+(l.map szF).sum
theorem Gd (l:List Fn) (f:Fn):xU (l++[f])=xU l+szF f+1:=by simp[xU];omega
theorem xV:∀{k:Nat}{l:List Fn}{n:Nat},(lF ts k l n).Sz xU (xU l) n
 |0,_,_=>by unfold lF;exact PR.sz_no
 |k+1,l,n=>by
   unfold lF
   split
   ·exact(PR.bind_sz (x:=0) (y:=xU l) AX fun f m=>xV.of (m:=m) (by rw[Gd];omega)).of (m:=n) a6
   ·exact PR.sz_ok a6
def szP (p:Prog):Nat:=p.vars.length+p.arrays.length+xU p.funcs
theorem Ge:(lG ts k n).Sz szP 0 n:=
 (PR.bind_sz (x:=0) (y:=0) sM fun h m=>(PR.bind_sz (x:=0) (y:=h.1.length+h.2.length) AX fun f m=>(PR.bind_sz (x:=szF f+1) (y:=h.1.length+h.2.length) (xV.of (m:=m) (by simp[xU];omega)) fun fs m=>PR.sz_ok (by simp only[szP];omega)).of (m:=m) a6).of (m:=m) a6).of (m:=n) a7
end
theorem zB{kd v:Nat}{t:Str} (h:firstT s=.ok (kd,t,v)):v≤4294967295:=by
 unfold firstT at h
 split at h
 ·cases h
 ·split at h
  ·split at h
   ·cases h
   ·cases h;omega
  split at h
  ·split at h
   ·split at h
    ·rename_i hx;cases h;omega
    ·cases h
   ·cases h
  split at h
  ·split at h
   ·cases h
   split at h <;> (cases h;omega)
  ·split at h
   ·cases h;omega
   ·cases h
theorem mY:∀{n k:Nat}{s:Str}{l:List Tok}{p:Nat},qn n k s=(.ok l,p)→l.length≤n∧∀t∈l,t.num≤4294967295
 |0,_,_,_,_,h=>by unfold qn at h;cases h;simp
 |_+1,_,[],_,_,h=>by unfold qn at h;cases h;simp
 |n+1,k,c::r,l,p,h=>by
   unfold qn at h
   split at h
   ·have:=mY h;exact⟨a6,this.2⟩
   split at h
   ·have:=mY h;exact⟨a6,this.2⟩
   split at h
   ·cases h
   ·rename_i kd t v hf
    split at h
    ·rename_i l' p' hl
     cases h
     have:=mY hl
     refine⟨by simp;omega,fun x hx=>?_⟩
     rcases x9.1 hx with rfl|hx
     ·exact zB hf
     ·exact this.2 x hx
    ·cases h
theorem Gf:(pG s).1.length≤20001∧∀t∈(pG s).1,t.num≤4294967295:=by
 unfold pG
 split
 ·simp
 ·split
  ·rename_i h
   have:=mY h
   exact⟨by simp only;omega,this.2⟩
  ·simp
def kw (ts:List Tok) (fin n:Nat):Nat:=match ts[n]? with|some t=>t.place|none=>fin
def UH (s:Str):R Prog×Nat:=
 if (pG s).2.2≠0 then(.err (pG s).2.2,(pG s).2.1)
 else match lG (pG s).1 (4*(pG s).1.length+7) 0 with
  |.ok p m=>if m<(pG s).1.length then(.err 3,kw (pG s).1 s.length m) else(.ok p,0)
  |.no m=>(.err 3,kw (pG s).1 s.length m)
theorem KJ{k m:Nat}{p:Prog} (h:lG (pG s).1 k 0=.ok p m):szP p≤20001:=by
 have h1:=Ge p m h
 have h2:m≤max 0 (pG s).1.length:=Gc p m h
 have h3:=Gf (s:=s)
 omega
end
end
end Go.Src

/- A part of the proof; no conditions. -/
import Derived.Test.YthnomjfdcidgbaaGreatDoorPart8
set_option linter.unusedSimpArgs false
set_option linter.unusedVariables false
set_option maxHeartbeats 64000000
set_option maxRecDepth 100000
namespace Go.Proofs.YthnomjfdcidgbaaGreatDoor
section
open Go Go.Am Go.Asm
open Go.Src (PR bO ah takeN bC Ex Stm cA fc eq eL fd)
section
variable {α:Type}{B:Nat}{g:Nat→Nat}
section
variable {b₀:Bs}{rd:Option Nat}{Φ:St→Am.Loc→List Deferred→World→Prop}{B0:Nat}{Ψ:fO}{o:Oper}{s:St}{K:St→Prop}{k:Box K}{args:Array Operand}{tys:Array TypeId}
theorem vh (ts:List Src.Tok) (n fin:Nat) (hΦ:aY b₀ Φ) (ho:o.op=.call ⟨.value (.func 126),args,tys⟩) (hx:args.toList.map s.ev=[.one (.ptr 125 (s.gen 125) 0)]) (hob:s.obj 125=some (rdC ts n fin)) (hk:K (s.put o.dst (iv .i64 (bO ts n:Nat)))):bh (spF Tryz.prog rd b₀ Φ B0 Ψ) o s k:=by
 refine da hΦ ho (by rw[hx];exact ER hob) ?_
 rintro _ g1 ob1 ⟨rfl,rfl,rfl⟩
 exact hk
theorem CG (ts:List Src.Tok) (n fin:Nat) (hΦ:aY b₀ Φ) (ho:o.op=.call ⟨.value (.func 125),args,tys⟩) (hx:args.toList.map s.ev=[.one (.ptr 125 (s.gen 125) 0)]) (Bc:Nat) (hB:200≤Bc) (hfree:∀i,Bc≤i→s.obj i=none) (hob:s.obj 125=some (rdC ts n fin)) (hk:K (s.put o.dst (sv (ah ts n)))):bh (spF Tryz.prog rd b₀ Φ B0 Ψ) o s k:=by
 refine da hΦ ho (by rw[hx];exact zQ hB hfree hob) ?_
 rintro _ g1 ob1 ⟨rfl,rfl,rfl⟩
 exact hk
theorem cj (ts:List Src.Tok) (n fin:Nat) (str:Str) (hΦ:aY b₀ Φ) (ho:o.op=.call ⟨.value (.func 75),args,tys⟩) (hx:args.toList.map s.ev=[.one (.ptr 125 (s.gen 125) 0),sv str]) (Bc:Nat) (hB:200≤Bc) (hfree:∀i,Bc≤i→s.obj i=none) (hob:s.obj 125=some (rdC ts n fin)) (hn:n≤1000000)
  (hy:ah ts n=str→K (St.put ⟨s.f,s.gen,upd s.obj 125 (some (rdC ts (n+1) fin))⟩ o.dst (bv true))) (hz:ah ts n≠str→K (s.put o.dst (bv false))):bh (spF Tryz.prog rd b₀ Φ B0 Ψ) o s k:=by
 refine da hΦ ho (by rw[hx];exact QM hB hfree hob hn str) ?_
 rintro _ g1 ob1 ⟨rfl,⟨h,rfl,rfl⟩|⟨h,rfl,rfl⟩⟩
 ·exact hy h
 ·exact hz h
theorem bQ (ts:List Src.Tok) (n fin:Nat) (hΦ:aY b₀ Φ) (ho:o.op=.call ⟨.value (.func 78),args,tys⟩) (l:List Str) (j:Nat) (hx:args.toList.map s.ev=[.one (.ptr 125 (s.gen 125) 0),.one (.osl j (s.gen j) 1 0 l.length)]) (Bc:Nat) (hB:200≤Bc) (hfree:∀i,Bc≤i→s.obj i=none) (hob:s.obj 125=some (rdC ts n fin)) (hn:n+l.length≤1000000) (hj:j<Bc) (hj1:j≠125) (hjo:s.obj j=some (bm l))
{ob:Obs}{p':PR α} (hin:InF B g ob s.gen s.obj) (hno:∀m,bC ts l n=.no m→p'=.no m)
  (hk:∀m,bC ts l n=.ok () m→K (St.put ⟨s.f,s.gen,upd s.obj 125 (some (rdC ts m fin))⟩ o.dst uv)):bh (spF Tryz.prog rd b₀ Φ B0 (DQ B [125] g ob (NoR ts fin p' g ob))) o s k:=by
 refine bN (R:=OkR ts fin (bC ts l n) (fun _=>uv) s.gen s.obj) (Ψ0:=NoR ts fin (bC ts l n) s.gen s.obj) hΦ ho (by rw[hx];exact LZ l hB hfree hob hn hj hj1 hjo) ?_ ?_
 ·exact Xp
 ·rintro r g' ob' ⟨rfl,a,m,hp,rfl,rfl⟩
  exact hk m hp
theorem CH (ts:List Src.Tok) (n fin:Nat) (hΦ:aY b₀ Φ) (ho:o.op=.call ⟨.value (.func 74),args,tys⟩) (hx:args.toList.map s.ev=[.one (.ptr 125 (s.gen 125) 0)]) (hob:s.obj 125=some (rdC ts n fin))
{ob:Obs}{p':PR α} (hin:InF B g ob s.gen s.obj) (hno:p'=.no n):bh (spF Tryz.prog rd b₀ Φ B0 (DQ B [125] g ob (NoR ts fin p' g ob))) o s k:=by
 refine bN (R:=fun _ _ _=>False) (Ψ0:=fun ch g' ob'=>ch=tD (jC ts fin n)∧g'=s.gen∧ob'=s.obj) hΦ ho (by rw[hx];exact wj hob) ?_ (fun _ _ _ h=>h.elim)
 rintro ch g' ob' ⟨rfl,rfl,rfl⟩
 exact hin.pan hob hno rfl
end
instance:Inhabited Ex:=⟨.mk 0 0 0 [] []⟩
theorem look [Inhabited α] (p:PR α):∃a m,(∃a' m',p=.ok a' m')→p=.ok a m:=by
 cases p with
 |ok a m=>exact⟨a,m,fun _=>rfl⟩
 |no m=>exact⟨default,0,fun⟨_,_,h⟩=>by cases h⟩
theorem Kw (p:PR α) {G:α→Prop} (a0:α) (h0:G a0) (h1:∀a m,p=.ok a m→G a):∃a m,G a∧((∃a' m',p=.ok a' m')→p=.ok a m):=by
 cases p with
 |ok a m=>exact⟨a,m,h1 a m rfl,fun _=>rfl⟩
 |no m=>exact⟨a0,0,h0,fun⟨_,_,h⟩=>by cases h⟩
theorem vV (s:Str):(Src.ew s).2.2≤9:=by
 have h:∀(c:Prop) [Decidable c] (x y:Int×Int×Nat),x.2.2≤9→y.2.2≤9→(if c then x else y).2.2≤9:=fun c _ x y hx hy=>by split <;> assumption
 unfold Src.ew
 repeat (refine h _ _ _ (by decide) ?_)
 decide
theorem Fb:(Src.ew []).2.2=0:=a8
mutual
def exD:Ex→List D
 |.mk kind op num name kids=>[.int .i64 kind,.int .i64 op,.int .u32 num,.str name,.sl (lq kids)]
def lq:List Ex→List (List D)
 |[]=>[]
 |e::l=>exD e::lq l
end
theorem aH:∀l:List Ex,lq l=l.map exD
 |[]=>by simp[lq]
 |e::l=>by simp[lq,aH l]
theorem bY (e:Ex):(exD e).length=5:=by cases e;simp[exD]
def exV (e:Ex):AV:=.agg ((exD e).map .d)
def eM (l:List Ex):AV:=.one (.d (.sl (l.map exD)))
def exC (l:List Ex):List C:=l.flatMap fun a=>(exD a).map .d
theorem wv (l:List Ex):(exC l).length=l.length*5:=by
 induction l with
 |nil=>rfl
 |cons a l ih=>simp only[exC,C9,j5,j4,bY,j6] at ih ⊢;omega
theorem jw (e:Ex):exC [e]=(exD e).map .d:=by simp[exC]
theorem BE (l m:List Ex):exC (l++m)=exC l++exC m:=by simp[exC]
theorem mE{s:St}{a b c d:D}{c5:C}{x5:D} (h:fW (B≤·) s c5 x5):eK B s [.agg [.d a,.d b,.d c,.d d,c5]] [.agg [.d a,.d b,.d c,.d d,.d x5]]:=
 ⟨_,_,rfl,.agg (xs:=[a,b,c,d,x5]) rfl (fun i e he=>by
  match i,he with
  |0,he=>cases he;exact⟨_,rfl,.d _⟩
  |1,he=>cases he;exact⟨_,rfl,.d _⟩
  |2,he=>cases he;exact⟨_,rfl,.d _⟩
  |3,he=>cases he;exact⟨_,rfl,.d _⟩
  | 4,he=>cases he;exact⟨_,rfl,h⟩),rfl⟩
theorem iT {B id g n:Nat}{s:St}{l:List Ex} (hid:B≤id) (hg:s.gen id=g) (ho:s.obj id=some (exC l)) (hn:l.length=n):fW (B≤·) s (.osl id g 5 0 n) (.sl (lq l)):=by
 rw[aH]
 exact eE hid hg l exD ho rfl (fun a _=>bY a) hn
end
end
section
attribute [local congr] Go.Am.ite_cc
open Go Go.Am Go.Asm
open Go.Src (PR bO ah takeN bC Ex Stm cA fc eq eL fd)
structure ExK (ts:List Src.Tok) (fin k:Nat):Prop where
 expr:∀(least n:Nat),1≤least→least≤100→n≤ts.length→4*(ts.length-n)+3≤k→ft 240 [iv .i64 least] ts n fin (cA ts k least n) exV
 atom:∀(n:Nat),n≤ts.length→4*(ts.length-n)+2≤k→ft 253 [] ts n fin (eq ts k n) exV
 args:∀(n:Nat),n≤ts.length→4*(ts.length-n)+4≤k→ft 255 [] ts n fin (eL ts k n) eM
theorem Md {ts:List Src.Tok}{fin k n:Nat} (hl:ts.length≤100000) (ih:ExK ts fin k) (hnl:n≤ts.length) (hk:4*(ts.length-n)+2≤k+1):ft 253 [] ts n fin (eq ts (k+1) n) exV:=by
 intro B g ob hB hf ho
 refine hdM B [125] Tryz.func253 rfl [.cell 2 210] Xy hf fun b₀ β0 s0 w0=>?_
 have n1:=nlo hB
 have n2:=nhi hB
 have hin:InF B g ob g ob:=InF.refl
 have hf1:=hf
 obtain⟨p,hp⟩:∃p,eq ts (k+1) n=p:=⟨_,rfl⟩
 rw[hp]
 rw[eq] at hp
 simp only[go_sem,n1,n2]
 refine vh ts n fin aa rfl Xw XA ?_
 by_cases h2:bO ts n=2
 ·rw[if_pos h2] at hp
  have h2i:(bO ts n:Int)=2:=a6
  simp only[go_sem,h2i]
  refine az aa rfl (nl ts n fin 2 a6 a8) Xx (B+57) a6 (fi hf1) XA (InF.go hin) (fun m h=>by rw[←hp,h];rfl) ?_
  intro t m ht
  rw[ht,PR.bind_ok] at hp
  unfold gv gK
  simp only[go_sem,n1,n2]
  refine⟨_,ab.refl _,?_⟩
  simp only[go_sem,n1,n2]
  exact InF.ret (n:=m) (a:=.mk 1 0 t.num [] []) (InF.go hin) Xw hp.symm (mE .nil) Yt
 rw[if_neg h2] at hp
 have h2i:¬(bO ts n:Int)=2:=a6
 simp only[go_sem,h2i]
 refine cj ts n fin [103,101,116] aa rfl Xw (B+57) a6 (fi hf1) XA a6 (fun h=>?_) (fun h=>?_)
 ·rw[if_pos h] at hp
  have hlt:=Src.bc h a7
  simp only[go_sem,n1,n2]
  refine bQ ts (n+1) fin aa rfl [[40],[41]] (B+17) Xx (B+57) a6 (fi hf1) Xw Xy a6 a6 XG (InF.go hin) (fun m h=>by rw[←hp,show Src.bL=[40] from rfl,show Src.bB=[41] from rfl,h];rfl) ?_
  intro m hm
  rw[show Src.bL=[40] from rfl,show Src.bB=[41] from rfl,hm,PR.bind_ok] at hp
  simp only[go_sem,n1,n2]
  refine⟨_,ab.refl _,?_⟩
  simp only[go_sem,n1,n2]
  exact InF.ret (n:=m) (a:=.mk 5 0 0 [] []) (InF.go hin) Xw hp.symm (mE .nil) Yt
 rw[if_neg h] at hp
 simp only[go_sem,n1,n2]
 refine cj ts n fin [40] aa rfl Xw (B+57) a6 (fi hf1) XA a6 (fun h=>?_) (fun h=>?_)
 ·rw[if_pos (show ah ts n=Src.bL from h)] at hp
  have hlt:=Src.bc h a7
  simp only[go_sem,n1,n2]
  refine az aa rfl (ih.expr 1 (n+1) a6 a6 a6 a6) Xx (B+57) a6 (fi hf1) Xw (InF.go hin) (fun m h=>by rw[←hp,h];rfl) ?_
  intro e m he
  rw[he,PR.bind_ok] at hp
  have hmn:=Src.ig k 1 (n+1) e m he
  obtain⟨ek,eo,en,es,ekd⟩:=e
  simp only[go_sem,n1,n2,exV,exD]
  refine bQ ts m fin aa rfl [[41]] (B+26) Xx (B+57) a6 (fi hf1) Xw Xy a6 a6 XG (InF.go hin) (fun m h=>by rw[←hp,show Src.bB=[41] from rfl,h];rfl) ?_
  intro m2 hm
  rw[show Src.bB=[41] from rfl,hm,PR.bind_ok] at hp
  simp only[go_sem,n1,n2]
  refine⟨_,ab.refl _,?_⟩
  simp only[go_sem,n1,n2]
  exact InF.ret (n:=m2) (a:=.mk ek eo en es ekd) (InF.go hin) Xw hp.symm (mE (.d _)) X9
 rw[if_neg (show ¬ah ts n=Src.bL from h)] at hp
 simp only[go_sem,n1,n2]
 refine cj ts n fin [33] aa rfl Xw (B+57) a6 (fi hf1) XA a6 (fun h=>?_) (fun h=>?_)
 ·rw[if_pos h] at hp
  have hlt:=Src.bc h a7
  simp only[go_sem,n1,n2]
  refine az aa rfl (ih.atom (n+1) a6 a6) Xx (B+57) a6 (fi hf1) Xw (InF.go hin) (fun m h=>by rw[←hp,h];rfl) ?_
  intro e m he
  rw[he,PR.bind_ok] at hp
  simp only[go_sem,n1,n2,exV,bY,j4]
  refine⟨_,ab.refl _,?_⟩
  simp only[go_sem,n1,n2]
  exact InF.ret (n:=m) (a:=.mk 7 0 0 [] [e]) (InF.go hin) Xw hp.symm (mE (iT (l:=[e]) a6 Xw Yj rfl)) X9
 rw[if_neg h] at hp
 simp only[go_sem,n1,n2]
 refine az aa rfl (nl ts n fin 1 a6 a8) Xx (B+57) a6 (fi hf1) XA (InF.go hin) (fun m h=>by rw[←hp,h];rfl) ?_
 intro t m ht
 rw[ht,PR.bind_ok] at hp
 have hm1:=Src.jb t m ht
 have hm2:=Src.cn t m ht
 unfold gv gK
 simp only[go_sem,n1,n2]
 refine cj ts m fin [91] aa rfl Xw (B+57) a6 (fi hf1) Xw a6 (fun h=>?_) (fun h=>?_)
 ·rw[if_pos h] at hp
  have hlt:=Src.bc h a7
  simp only[go_sem,n1,n2]
  refine az aa rfl (ih.expr 1 (m+1) a6 a6 a6 a6) Xx (B+57) a6 (fi hf1) Xw (InF.go hin) (fun m h=>by rw[←hp,h];rfl) ?_
  intro e m2 he
  rw[he,PR.bind_ok] at hp
  have hmn:=Src.ig k 1 (m+1) e m2 he
  simp only[go_sem,n1,n2,exV,bY,j4]
  refine bQ ts m2 fin aa rfl [[93]] (B+48) Xx (B+57) a6 (fi hf1) Xw Xy a6 a6 XG (InF.go hin) (fun m h=>by rw[←hp,h];rfl) ?_
  intro m3 hm
  rw[hm,PR.bind_ok] at hp
  simp only[go_sem,n1,n2]
  refine⟨_,ab.refl _,?_⟩
  simp only[go_sem,n1,n2]
  exact InF.ret (n:=m3) (a:=.mk 3 0 0 t.text [e]) (InF.go hin) Xw hp.symm (mE (iT (l:=[e]) a6 Xw Yj rfl)) X9
 rw[if_neg h] at hp
 simp only[go_sem,n1,n2]
 refine cj ts m fin [40] aa rfl Xw (B+57) a6 (fi hf1) Xw a6 (fun h=>?_) (fun h=>?_)
 ·rw[if_pos (show ah ts m=Src.bL from h)] at hp
  have hlt:=Src.bc h a7
  simp only[go_sem,n1,n2]
  refine az aa rfl (ih.args (m+1) a6 a6) Xx (B+57) a6 (fi hf1) Xw (InF.go hin) (fun m h=>by rw[←hp,h];rfl) ?_
  intro l m2 he
  rw[he,PR.bind_ok] at hp
  simp only[go_sem,n1,n2,eM]
  refine⟨_,ab.refl _,?_⟩
  simp only[go_sem,n1,n2]
  exact InF.ret (n:=m2) (a:=.mk 4 0 0 t.text l) (InF.go hin) Xw hp.symm (mE (.d _)) (by simp[pack,exV,exD,aH])
 rw[if_neg (show ¬ah ts m=Src.bL from h)] at hp
 simp only[go_sem,n1,n2]
 refine⟨_,ab.refl _,?_⟩
 simp only[go_sem,n1,n2]
 exact InF.ret (n:=m) (a:=.mk 2 0 0 t.text []) (InF.go hin) Xw hp.symm (mE .nil) Yt
theorem si {B id g n:Nat}{s:St}{l:List Ex} (hid:B≤id) (hg:s.gen id=g) (ho:s.obj id=some (exC l)) (hn:l.length=n):eK B s [.one (.osl id g 5 0 n)] [eM l]:=
 ⟨_,_,rfl,.one (by have:=iT (B:=B) hid hg ho hn;rwa [aH] at this),rfl⟩
theorem Me {ts:List Src.Tok}{fin k n:Nat} (hl:ts.length≤100000) (ih:∀j,j≤k→ExK ts fin j) (hnl:n≤ts.length) (hk:4*(ts.length-n)+4≤k+1):ft 255 [] ts n fin (eL ts (k+1) n) eM:=by
 intro B g ob hB hf ho
 refine hdM B [125] Tryz.func255 rfl [.tmp 2] Xy hf fun b₀ β0 s0 w0=>?_
 have n1:=nlo hB
 have n2:=nhi hB
 have hin:InF B g ob g ob:=InF.refl
 have hf1:=hf
 obtain⟨p,hp⟩:∃p,eL ts (k+1) n=p:=⟨_,rfl⟩
 rw[hp]
 rw[eL] at hp
 simp only[go_sem,n1,n2]
 refine cj ts n fin [41] aa rfl Xw (B+20) a6 (fi hf1) XA a6 (fun h=>?_) (fun h=>?_)
 ·rw[if_pos (show ah ts n=Src.bB from h)] at hp
  simp only[go_sem,n1,n2]
  refine⟨_,ab.refl _,?_⟩
  simp only[go_sem,n1,n2]
  exact InF.ret (n:=n+1) (a:=[]) (rs:=[.one (.d (.sl []))]) (InF.go hin) Xw hp.symm ⟨_,_,rfl,.one .nil,rfl⟩ rfl
 rw[if_neg (show ¬ah ts n=Src.bB from h)] at hp
 simp only[go_sem,n1,n2]
 refine az aa rfl ((ih k (j8 _)).expr 1 n a6 a6 a6 a6) Xx (B+20) a6 (fi hf1) XA (InF.go hin) (fun m h=>by rw[←hp,h];rfl) ?_
 intro e m he
 rw[he,PR.bind_ok] at hp
 have hm1:=Src.ig k 1 n e m he
 have hm2:=Src.bI k 1 n e m he
 simp only[go_sem,n1,n2,exV,bY,j4]
 refine ai (fun z st=>∃(j n':Nat) (acc:List Ex),z+n'=ts.length∧acc.length≤n'∧4*(ts.length-n')+2≤j∧j≤k∧st.f 0=.one (.ptr 125 (g 125) 0)∧st.f 3=.one (.osl (B+8) (st.gen (B+8)) 5 0 acc.length)∧st.obj (B+8)=some (exC acc)∧st.obj 125=some (rdC ts n' fin)∧InF B g ob st.gen st.obj∧(∀i,B+20≤i→st.obj i=none)∧fd ts j acc n'=p) (ts.length-m) ?_ ?_
 ·refine⟨k,m,[e],a6,by simp;omega,a6,j8 _,?_⟩
  simp only[go_sem,n1,n2,jw]
  exact⟨(InF.go hin),(fi hf1),hp⟩
 clear hf1 hin hp he
 rintro z f g1 ob1 ⟨j,n',acc,hz,hacc,hj,hjk,q0,q3,o8,o125,hin,hf1,hp⟩
 simp only at q0 q3 o8 o125 hin hf1
 obtain⟨j,rfl⟩:∃i,j=i+1:=⟨j-1,a6⟩
 rw[fd] at hp
 have hg:=hin.rd
 simp only[go_sem,q0]
 refine cj ts n' fin [44] aa rfl XH (B+20) a6 (fi hf1) XD a6 (fun h=>?_) (fun h=>?_)
 ·rw[if_pos (show ah ts n'=Src.ja from h)] at hp
  have hlt:=Src.bc h a7
  simp only[go_sem,n1,n2,q0,q3]
  refine az aa rfl ((ih j a6).expr 1 (n'+1) a6 a6 a6 a6) XC (B+20) a6 (fi hf1) Xw (InF.go hin) (fun m h=>by rw[←hp,h];rfl) ?_
  intro e m he
  rw[he,PR.bind_ok] at hp
  have hm1:=Src.ig j 1 (n'+1) e m he
  have hm2:=Src.bI j 1 (n'+1) e m he
  have hcl:=wv acc
  simp only[go_sem,n1,n2,exV,bY,j4,q0,q3,o8,hcl,aD]
  refine⟨a6,⟨a8,a6⟩,?_⟩
  refine ac (ts.length-m) a6 ⟨j,m,acc++[e],a6,by rw[j5];simp;omega,a6,a6,?_⟩
  exact WW
 ·rw[if_neg (show ¬ah ts n'=Src.ja from h)] at hp
  simp only[go_sem,n1,n2,q0,q3]
  refine bQ ts n' fin aa rfl [[41]] (B+17) XC (B+20) a6 (fi hf1) XD Xy a6 a6 XG (InF.go hin) (fun m h=>by rw[←hp,show Src.bB=[41] from rfl,h];rfl) ?_
  intro m hm
  rw[show Src.bB=[41] from rfl,hm,PR.bind_ok] at hp
  simp only[go_sem,n1,n2,q0,q3]
  refine⟨_,ab.refl _,?_⟩
  simp only[go_sem,n1,n2,q3]
  exact InF.ret (n:=m) (a:=acc) (InF.go hin) Xw hp.symm (si a6 Xw (by simp only[go_sem,n1,n2,o8]) rfl) rfl
section
variable {ts:List Src.Tok}
theorem Mf{fin k least n:Nat} (hl:ts.length≤100000) (ih:∀j,j≤k→ExK ts fin j) (hle:1≤least) (hle2:least≤100) (hnl:n≤ts.length) (hk:4*(ts.length-n)+3≤k+1):ft 240 [iv .i64 least] ts n fin (cA ts (k+1) least n) exV:=by
 intro B g ob hB hf ho
 refine hdM B [125] Tryz.func240 rfl [.cell 4 210] Xy hf fun b₀ β0 s0 w0=>?_
 have n1:=nlo hB
 have n2:=nhi hB
 have hin:InF B g ob g ob:=InF.refl
 have hf1:=hf
 obtain⟨p,hp⟩:∃p,cA ts (k+1) least n=p:=⟨_,rfl⟩
 rw[hp]
 rw[cA] at hp
 simp only[go_sem,n1,n2]
 refine az aa rfl ((ih k (j8 _)).atom n a6 a6) Xx (B+35) a6 (fi hf1) XA (InF.go hin) (fun m h=>by rw[←hp,h];rfl) ?_
 intro e m he
 rw[he,PR.bind_ok] at hp
 have hm1:=Src.yO k n e m he
 have hm2:=Src.qQ k n e m he
 obtain⟨ek,eo,en,es,ekd⟩:=e
 simp only[go_sem,n1,n2,exV,exD]
 refine ai (fun z st=>∃(j n':Nat) (left:Ex),z+n'=ts.length∧4*(ts.length-n')+2≤j∧j≤k∧st.f 0=.one (.ptr 125 (g 125) 0)∧st.f 1=iv .i64 least∧st.f 4=.one (.ptr (B+4) (st.gen (B+4)) 0)∧st.f 5=.one (.ptr (B+5) (st.gen (B+5)) 0)∧
  (∃a b c d e,st.obj (B+4)=some [a,b,c,d,e])∧st.obj (B+5)=some ((exD left).map .d)∧st.obj 125=some (rdC ts n' fin)∧InF B g ob st.gen st.obj∧(∀i,B+35≤i→st.obj i=none)∧fc ts j least left n'=p) (ts.length-m) ?_ ?_
 ·refine⟨k,m,.mk ek eo en es ekd,a6,a6,j8 _,?_⟩
  exact W8
 clear hf1 hin hp he
 rintro z f g1 ob1 ⟨j,n',left,hz,hj,hjk,q0,q1,q4,q5,⟨a,b,c,d,e,o4⟩,o5,o125,hin,hf1,hp⟩
 simp only at q0 q1 q4 q5 o4 o5 o125 hin hf1
 obtain⟨j,rfl⟩:∃i,j=i+1:=⟨j-1,a6⟩
 rw[fc] at hp
 have hg:=hin.rd
 obtain⟨lk,lo,ln,ls,lkd⟩:=left
 simp only[exD,l6,v7] at o5
 have hsl:=vV (ah ts n')
 simp only[go_sem,q0]
 refine CG ts n' fin aa rfl XH (B+35) a6 (fi hf1) XD ?_
 simp only[go_sem,q0]
 refine Pw rfl (by simp only[go_sem,q0];exact Mb _) ?_
 rintro _ rfl
 unfold BA
 by_cases hlt:(Src.ew (ah ts n')).2.2<least
 ·rw[if_pos hlt] at hp
  have hli:((Src.ew (ah ts n')).2.2:Int)<(least:Int):=a6
  simp only[go_sem,q0,q1,q4,q5,hli,o4,o5]
  refine⟨_,ab.refl _,?_⟩
  simp only[go_sem,q4,n1,n2]
  exact InF.ret (n:=n') (a:=.mk lk lo ln ls lkd) (InF.go hin) XD hp.symm (mE (.d _)) X9
 rw[if_neg hlt] at hp
 have hli:¬((Src.ew (ah ts n')).2.2:Int)<(least:Int):=a6
 have hnl':n'<ts.length:=by
  refine Src.bc rfl fun h=>?_
  rw[h,Fb] at hlt
  omega
 have hw:=ae (k:=n') a6
 have hws:=ae (k:=(Src.ew (ah ts n')).2.2) a6
 unfold rdC cF at o125
 simp only[go_sem,q0,q1,q4,q5,hli,o4,o5,hg,o125,hw,n1,n2]
 obtain⟨right,m',hlook⟩:=look (cA ts j ((Src.ew (ah ts n')).2.2+1) (n'+1))
 refine dw (∃a m,cA ts j ((Src.ew (ah ts n')).2.2+1) (n'+1)=.ok a m) aU mixed aa [B+32,125] [([5],[1],[],false),([0],[],[],false),([7],[],[],false),([29],[],[],false),([28,30],[],[1],false),([27,31],[],[0],false),([6],[0,1],[],false),([33,32],[],[],true)] 2 rfl b9 rfl Xy ?_
 simp only[go_sem]
 (apply ar;(case hf=>rfl);(case hg=>first|exact l7|exact⟨_,rfl,by decide,rfl⟩);(case h1=>intro fa ga oa K' hK;simp only[go_sem,q5,o5,n1,n2] at hK ⊢;exact hK))
 iterate 2 (apply ar;(case hf=>rfl);(case hg=>first|exact l7|exact⟨_,rfl,by decide,rfl⟩);(case h1=>intro fa ga oa K' hK;simp only[go_sem,q0] at hK ⊢;exact hK))
 (apply ar;(case hf=>rfl);(case hg=>first|exact l7|exact⟨_,rfl,by decide,rfl⟩);(case h1=>intro fa ga oa K' hK;simp only[go_sem,hws] at hK ⊢;exact hK))
 refine dy (v:=exV right) (y:=some (rdC ts m' fin)) l7 a7 (fun fa ga oa K' hK=>?_) ?_
 ·simp only[go_sem,q0] at hK ⊢
  refine az (k:=bx K') aa rfl ((ih j a6).expr ((Src.ew (ah ts n')).2.2+1) (n'+1) a6 a6 a6 a6) XN (B+35) a6 (fi hf1) (by simp only[go_sem,n1,n2,rdC,cF]) (InF.go hin) (fun m h=>by rw[←hp,h];rfl) ?_
  intro a2 m2 h2
  have e:=hlook ⟨_,_,h2⟩
  rw[h2] at e
  cases e
  simp only[go_sem]
  exact hK ⟨_,_,h2⟩
 (apply cG;(case hf=>rfl);(case hg=>first|exact l7|exact⟨_,rfl,by decide,rfl⟩);(case h1=>intro fa ga oa K' hK;simp only[go_sem,exV,bY,j4] at hK ⊢;exact hK))
 (apply ar;(case hf=>rfl);(case hg=>first|exact l7|exact⟨_,rfl,by decide,rfl⟩);(case h1=>intro fa ga oa K' hK;simp only[go_sem,n1,n2] at hK ⊢;exact hK))
 refine dA rfl l7 ?_
 intro K' hK'
 simp only[go_sem,n1,n2]
 refine hK' _ ?_
 clear hK' K'
 intro hz'
 have e:=hlook hz'
 rw[e,PR.bind_ok] at hp
 have hm1:=Src.ig j ((Src.ew (ah ts n')).2.2+1) (n'+1) right m' e
 have hm2:=Src.bI j ((Src.ew (ah ts n')).2.2+1) (n'+1) right m' e
 simp only[go_sem,n1,n2,q5,o5,q0,q1,q4]
 refine⟨ts.length-m',_,a6,Dz (id:=B+32) (o:=B+5) (cells:=[.d (.int .i64 (Src.ew (ah ts n')).1),.d (.int .i64 (Src.ew (ah ts n')).2.1),.d (.int .u32 0),.d (.str []),.osl (B+32) (nxC (aD Tt 154+1) (g1 (B+32))) 5 0 2]) (cs:=[.d (.int .i64 (Src.ew (ah ts n')).1),.d (.int .i64 (Src.ew (ah ts n')).2.1),.d (.int .u32 0),.d (.str []),.d (.sl [exD (.mk lk lo ln ls lkd),exD right])]) Xw rfl ?_,?_⟩
 ·intro i c c' hc hc'
  match i,hc,hc' with
  |0,hc,hc'=>cases hc;cases hc';exact .inl rfl
  |1,hc,hc'=>cases hc;cases hc';exact .inl rfl
  |2,hc,hc'=>cases hc;cases hc';exact .inl rfl
  |3,hc,hc'=>cases hc;cases hc';exact .inl rfl
  |4,hc,hc'=>
    cases hc;cases hc'
    refine .inr ⟨_,eE (P:=(· = B+32)) rfl ?_ [.mk lk lo ln ls lkd,right] exD (cells:=exC [.mk lk lo ln ls lkd,right]) ?_ rfl (fun a _=>bY a) rfl,rfl⟩
    ·simp only[go_sem,n1,n2]
    ·simp only[go_sem,n1,n2]
     simp[exC,exD]
 refine⟨j,m',.mk (Src.ew (ah ts n')).1 (Src.ew (ah ts n')).2.1 0 [] [.mk lk lo ln ls lkd,right],a6,a6,a6,?_⟩
 simp only[St.drop1]
 simp only[go_sem,n1,n2,q0,q1,q4,exD,lq]
 exact⟨q5,⟨_,_,_,_,_,o4⟩,(InF.go hin),(fi hf1),hp⟩
theorem CI (fin:Nat) (hl:ts.length≤100000) (k:Nat):ExK ts fin k:=by
 induction k using Nat.strongRecOn with
 |ind k ih=>
   cases k with
   |zero=>exact⟨fun _ _ _ _ _ h=>absurd h a6,fun _ _ h=>absurd h a6,fun _ _ h=>absurd h a6⟩
   |succ k=>
     exact⟨fun least n h1 h2 h3 h4=>Mf hl (fun j hj=>ih j a6) h1 h2 h3 h4,fun n h1 h2=>Md hl (ih k a6) h1 h2,fun n h1 h2=>Me hl (fun j hj=>ih j a6) h1 h2⟩
end
end
section
attribute [local congr] Go.Am.ite_cc
open Go Go.Am Go.Asm
open Go.Src (PR bO ah takeN bC Ex Stm cA fc eq eL fd fJ eT dr cI)
section
def fH (l:List Str):AV:=.one (.d (.sl (l.map fun s=>[.str s])))
theorem kf (l:List Str):(bm l).length=l.length:=j4 _
theorem xW {B id g n:Nat}{s:St}{l:List Str} (hid:B≤id) (hg:s.gen id=g) (ho:s.obj id=some (bm l)) (hn:l.length=n):eK B s [.one (.osl id g 1 0 n)] [fH l]:=
 ⟨_,_,rfl,.one (eE hid hg l (fun s=>[.str s]) ho YQ (fun _ _=>rfl) hn),rfl⟩
variable {ts:List Src.Tok}{fin k n:Nat}
theorem ww (hl:ts.length≤100000) (hnl:n≤ts.length) (hk:ts.length-n+1≤k):ft 76 [] ts n fin (dr ts k n) fH:=by
 intro B g ob hB hf ho
 refine hdM B [125] Tryz.func76 rfl [.tmp 2] Xy hf fun b₀ β0 s0 w0=>?_
 have n1:=nlo hB
 have n2:=nhi hB
 have hin:InF B g ob g ob:=InF.refl
 have hf1:=hf
 obtain⟨p,hp⟩:∃p,dr ts k n=p:=⟨_,rfl⟩
 rw[hp]
 rw[dr] at hp
 simp only[go_sem,n1,n2]
 refine az aa rfl (nl ts n fin 1 a6 a8) Xx (B+17) a6 (fi hf1) XA (InF.go hin) (fun m h=>by rw[←hp,h];rfl) ?_
 intro t m ht
 rw[ht,PR.bind_ok] at hp
 have hm1:=Src.jb t m ht
 have hm2:=Src.cn t m ht
 unfold gv gK
 simp only[go_sem,n1,n2]
 refine ai (fun z st=>∃(j n':Nat) (acc:List Str),z+n'=ts.length∧acc.length≤n'∧ts.length-n'+1≤j∧st.f 0=.one (.ptr 125 (g 125) 0)∧st.f 3=.one (.osl (B+7) (st.gen (B+7)) 1 0 acc.length)∧st.obj (B+7)=some (bm acc)∧st.obj 125=some (rdC ts n' fin)∧InF B g ob st.gen st.obj∧(∀i,B+17≤i→st.obj i=none)∧cI ts j acc n'=p) (ts.length-m) ?_ ?_
 ·refine⟨k,m,[t.text],a6,by simp;omega,a6,?_⟩
  simp only[go_sem,n1,n2,bm]
  exact⟨(InF.go hin),(fi hf1),hp⟩
 clear hf1 hin hp
 rintro z f g1 ob1 ⟨j,n',acc,hz,hacc,hj,q0,q3,o7,o125,hin,hf1,hp⟩
 simp only at q0 q3 o7 o125 hin hf1
 obtain⟨j,rfl⟩:∃i,j=i+1:=⟨j-1,a6⟩
 rw[cI] at hp
 have hg:=hin.rd
 simp only[go_sem,q0]
 refine cj ts n' fin [44] aa rfl XH (B+17) a6 (fi hf1) XD a6 (fun h=>?_) (fun h=>?_)
 ·rw[if_pos (show ah ts n'=Src.ja from h)] at hp
  have hlt:=Src.bc h a7
  simp only[go_sem,n1,n2,q0,q3]
  refine az aa rfl (nl ts (n'+1) fin 1 a6 a8) XC (B+17) a6 (fi hf1) Xw (InF.go hin) (fun m h=>by rw[←hp,h];rfl) ?_
  intro t m ht
  rw[ht,PR.bind_ok] at hp
  have hm1:=Src.jb t m ht
  have hm2:=Src.cn t m ht
  have hcl:=kf acc
  unfold gv gK
  simp only[go_sem,n1,n2,q0,q3,o7,hcl,aD]
  refine⟨a6,⟨a8,a6⟩,?_⟩
  refine ac (ts.length-m) a6 ⟨j,m,acc++[t.text],a6,by rw[j5];simp;omega,a6,?_⟩
  exact W9
 ·rw[if_neg (show ¬ah ts n'=Src.ja from h)] at hp
  simp only[go_sem,n1,n2,q0,q3]
  refine⟨_,ab.refl _,?_⟩
  simp only[go_sem,n1,n2,q3]
  exact InF.ret (n:=n') (a:=acc) (InF.go hin) XD hp.symm (xW a6 Xw (by simp only[go_sem,n1,n2,o7]) rfl) rfl
theorem wx (hl:ts.length≤100000) (hnl:n≤ts.length) (hk:4*(ts.length-n)+3≤k):ft 239 [] ts n fin (fJ ts k n) eM:=by
 intro B g ob hB hf ho
 refine hdM B [125] Tryz.func239 rfl [.tmp 2] Xy hf fun b₀ β0 s0 w0=>?_
 have n1:=nlo hB
 have n2:=nhi hB
 have hin:InF B g ob g ob:=InF.refl
 have hf1:=hf
 obtain⟨p,hp⟩:∃p,fJ ts k n=p:=⟨_,rfl⟩
 rw[hp]
 rw[fJ] at hp
 simp only[go_sem,n1,n2]
 refine bQ ts n fin aa rfl [[40]] (B+5) Xx (B+14) a6 (fi hf1) XA Xy a6 a6 XG (InF.go hin) (fun m h=>by rw[←hp,show Src.bL=[40] from rfl,h];rfl) ?_
 intro m hm
 rw[show Src.bL=[40] from rfl,hm,PR.bind_ok] at hp
 have hm1:=Src.cq (ts:=ts) a7 () m hm
 have hm2:=Src.aI () m hm
 simp only[go_sem,n1,n2]
 refine az aa rfl ((CI fin hl k).expr 1 m a6 a6 a6 a6) Xx (B+14) a6 (fi hf1) Xw (InF.go hin) (fun m h=>by rw[←hp,h];rfl) ?_
 intro e m2 he
 rw[he,PR.bind_ok] at hp
 have hm3:=Src.ig k 1 m e m2 he
 obtain⟨ek,eo,en,es,ekd⟩:=e
 simp only[go_sem,n1,n2,exV,exD]
 refine bQ ts m2 fin aa rfl [[41]] (B+10) Xx (B+14) a6 (fi hf1) Xw Xy a6 a6 XG (InF.go hin) (fun m h=>by rw[←hp,show Src.bB=[41] from rfl,h];rfl) ?_
 intro m3 hm
 rw[show Src.bB=[41] from rfl,hm,PR.bind_ok] at hp
 simp only[go_sem,n1,n2]
 refine⟨_,ab.refl _,?_⟩
 simp only[go_sem,n1,n2]
 exact InF.ret (n:=m3) (a:=[.mk ek eo en es ekd]) (InF.go hin) Xw hp.symm (si a6 Xw X7 rfl) rfl
end
end
section
attribute [local congr] Go.Am.ite_cc
open Go Go.Am Go.Asm
open Go.Src (PR bO ah takeN bC Ex Stm cA fc eq eL fd fJ eT dr gy fN cB)
mutual
def smD:Stm→List D
 |.mk kind name e th el=>[.int .i64 kind,.str name,.sl (lq e),.sl (mF th),.sl (mF el)]
def mF:List Stm→List (List D)
 |[]=>[]
 |s::l=>smD s::mF l
end
theorem eg:∀l:List Stm,mF l=l.map smD
 |[]=>by simp[mF]
 |e::l=>by simp[mF,eg l]
theorem fM (e:Stm):(smD e).length=5:=by cases e;simp[smD]
def smV (e:Stm):AV:=.agg ((smD e).map .d)
def fQ (l:List Stm):AV:=.one (.d (.sl (l.map smD)))
def smC (l:List Stm):List C:=l.flatMap fun a=>(smD a).map .d
theorem wy (l:List Stm):(smC l).length=l.length*5:=by
 induction l with
 |nil=>rfl
 |cons a l ih=>simp only[smC,C9,j5,j4,fM,j6] at ih ⊢;omega
theorem wz (e:Stm):smC [e]=(smD e).map .d:=by simp[smC]
theorem wA (l m:List Stm):smC (l++m)=smC l++smC m:=by simp[smC]
theorem wB {B id g n:Nat}{s:St}{l:List Stm} (hid:B≤id) (hg:s.gen id=g) (ho:s.obj id=some (smC l)) (hn:l.length=n):eK B s [.one (.osl id g 5 0 n)] [fQ l]:=
 ⟨_,_,rfl,.one (eE hid hg l smD ho rfl (fun a _=>fM a) hn),rfl⟩
theorem iU {B:Nat}{s:St}{a b:D}{c3 c4 c5:C}{x3 x4 x5:D} (h3:fW (B≤·) s c3 x3) (h4:fW (B≤·) s c4 x4) (h5:fW (B≤·) s c5 x5):eK B s [.agg [.d a,.d b,c3,c4,c5]] [.agg [.d a,.d b,.d x3,.d x4,.d x5]]:=
 ⟨_,_,rfl,.agg (xs:=[a,b,x3,x4,x5]) rfl (fun i e he=>by
  match i,he with
  |0,he=>cases he;exact⟨_,rfl,.d _⟩
  |1,he=>cases he;exact⟨_,rfl,.d _⟩
  |2,he=>cases he;exact⟨_,rfl,h3⟩
  |3,he=>cases he;exact⟨_,rfl,h4⟩
  | 4,he=>cases he;exact⟨_,rfl,h5⟩),rfl⟩
theorem Ik {ts:List Src.Tok}{fin k n:Nat} (hl:ts.length≤100000) (hnl:n≤ts.length) (hk:4*(ts.length-n)+3≤k):ft 242 [] ts n fin (eT ts k n) smV:=by
 intro B g ob hB hf ho
 refine hdM B [125] Tryz.func242 rfl [.cell 2 156] Xy hf fun b₀ β0 s0 w0=>?_
 have n1:=nlo hB
 have n2:=nhi hB
 have hin:InF B g ob g ob:=InF.refl
 have hf1:=hf
 obtain⟨p,hp⟩:∃p,eT ts k n=p:=⟨_,rfl⟩
 rw[hp]
 rw[eT] at hp
 simp only[go_sem,n1,n2]
 refine az aa rfl (nl ts n fin 1 a6 a8) Xx (B+44) a6 (fi hf1) XA (InF.go hin) (fun m h=>by rw[←hp,h];rfl) ?_
 intro t m ht
 rw[ht,PR.bind_ok] at hp
 have hm1:=Src.jb t m ht
 have hm2:=Src.cn t m ht
 unfold gv gK
 simp only[go_sem,n1,n2]
 refine cj ts m fin [61] aa rfl Xw (B+44) a6 (fi hf1) Xw a6 (fun h=>?_) (fun h=>?_)
 ·rw[if_pos h] at hp
  have hlt:=Src.bc h a7
  simp only[go_sem,n1,n2]
  refine az aa rfl ((CI fin hl k).expr 1 (m+1) a6 a6 a6 a6) Xx (B+44) a6 (fi hf1) Xw (InF.go hin) (fun m h=>by rw[←hp,h];rfl) ?_
  intro e m2 he
  rw[he,PR.bind_ok,PR.bind_ok] at hp
  have hm3:=Src.ig k 1 (m+1) e m2 he
  simp only[go_sem,n1,n2,exV,bY,j4]
  refine bQ ts m2 fin aa rfl [[59]] (B+41) Xx (B+44) a6 (fi hf1) Xw Xy a6 a6 XG (InF.go hin) (fun m h=>by rw[←hp,show Src.cp=[59] from rfl,h];rfl) ?_
  intro m3 hm
  rw[show Src.cp=[59] from rfl,hm,PR.bind_ok] at hp
  simp only[go_sem,n1,n2]
  refine⟨_,ab.refl _,?_⟩
  simp only[go_sem,n1,n2]
  exact InF.ret (n:=m3) (a:=.mk 1 t.text [e] [] []) (InF.go hin) Xw hp.symm (iU (iT (l:=[e]) a6 Xw Yj rfl) .nil .nil) Ys
 rw[if_neg h] at hp
 simp only[go_sem,n1,n2]
 refine cj ts m fin [91] aa rfl Xw (B+44) a6 (fi hf1) Xw a6 (fun h=>?_) (fun h=>?_)
 ·rw[if_pos h] at hp
  have hlt:=Src.bc h a7
  simp only[go_sem,n1,n2]
  refine az aa rfl ((CI fin hl k).expr 1 (m+1) a6 a6 a6 a6) Xx (B+44) a6 (fi hf1) Xw (InF.go hin) (fun m h=>by rw[←hp,h];rfl) ?_
  intro e m2 he
  rw[he,PR.bind_ok] at hp
  have hm3:=Src.ig k 1 (m+1) e m2 he
  have hm3':=Src.bI k 1 (m+1) e m2 he
  obtain⟨ek,eo,en,es,ekd⟩:=e
  simp only[go_sem,n1,n2,exV,exD]
  refine bQ ts m2 fin aa rfl [[93],[61]] (B+25) Xx (B+44) a6 (fi hf1) Xw Xy a6 a6 XG (InF.go hin) (fun m h=>by rw[←hp,h];rfl) ?_
  intro m3 hm
  rw[hm,PR.bind_ok] at hp
  have hm4:=Src.cq (ts:=ts) a7 () m3 hm
  have hm5:=Src.aI () m3 hm
  simp only[go_sem,n1,n2]
  obtain⟨right,m',hlook⟩:=look (cA ts k 1 m3)
  refine dw (∃a m,cA ts k 1 m3=.ok a m) aU mixed aa [B+31,125] [([4],[1],[],false),([0],[],[],false),([29],[],[1],false),([28,30],[],[0],false),([3],[0,1],[],false),([32,31],[],[],true)] 2 rfl b9 rfl Xy ?_
  simp only[go_sem]
  (apply ar;(case hf=>rfl);(case hg=>first|exact l7|exact⟨_,rfl,by decide,rfl⟩);(case h1=>intro fa ga oa K' hK;simp only[go_sem,n1,n2] at hK ⊢;exact hK))
  (apply ar;(case hf=>rfl);(case hg=>first|exact l7|exact⟨_,rfl,by decide,rfl⟩);(case h1=>intro fa ga oa K' hK;simp only[go_sem] at hK ⊢;exact hK))
  refine dy (v:=exV right) (y:=some (rdC ts m' fin)) l7 a7 (fun fa ga oa K' hK=>?_) ?_
  ·simp only[go_sem,n1,n2] at hK ⊢
   refine az (k:=bx K') aa rfl ((CI fin hl k).expr 1 m3 a6 a6 a6 a6) Xx (B+44) a6 (fi hf1) Xw (InF.go hin) (fun m h=>by rw[←hp,h];rfl) ?_
   exact UZ
  (apply cG;(case hf=>rfl);(case hg=>first|exact l7|exact⟨_,rfl,by decide,rfl⟩);(case h1=>intro fa ga oa K' hK;simp only[go_sem,exV,bY,j4,n1,n2] at hK ⊢;exact hK))
  (apply ar;(case hf=>rfl);(case hg=>first|exact l7|exact⟨_,rfl,by decide,rfl⟩);(case h1=>intro fa ga oa K' hK;simp only[go_sem,n1,n2] at hK ⊢;exact hK))
  refine dA rfl l7 ?_
  intro K' hK'
  simp only[go_sem,n1,n2]
  refine hK' _ ?_
  clear hK' K'
  intro hz'
  have e:=hlook hz'
  rw[e,PR.bind_ok,PR.bind_ok] at hp
  have hm6:=Src.ig k 1 m3 right m' e
  simp only[go_sem,n1,n2]
  refine bQ ts m' fin aa rfl [[59]] (B+41) Xx (B+44) a6 (fi hf1) Xw Xy a6 a6 XG (InF.go hin) (fun m h=>by rw[←hp,show Src.cp=[59] from rfl,h];rfl) ?_
  intro m4 hm
  rw[show Src.cp=[59] from rfl,hm,PR.bind_ok] at hp
  simp only[go_sem,n1,n2]
  refine⟨_,ab.refl _,?_⟩
  simp only[go_sem,n1,n2]
  exact InF.ret (n:=m4) (a:=.mk 2 t.text [.mk ek eo en es ekd,right] [] []) (InF.go hin) Xw hp.symm (iU (iT (l:=[.mk ek eo en es ekd,right]) a6 Xw X7 rfl) .nil .nil) Ys
 rw[if_neg h] at hp
 simp only[go_sem,n1,n2]
 refine cj ts m fin [40] aa rfl Xw (B+44) a6 (fi hf1) Xw a6 (fun h=>?_) (fun h=>?_)
 ·rw[if_pos (show ah ts m=Src.bL from h)] at hp
  have hlt:=Src.bc h a7
  simp only[go_sem,n1,n2]
  refine az aa rfl ((CI fin hl k).args (m+1) a6 a6) Xx (B+44) a6 (fi hf1) Xw (InF.go hin) (fun m h=>by rw[←hp,h];rfl) ?_
  intro l m2 he
  rw[he,PR.bind_ok,PR.bind_ok] at hp
  have hm3:=Src.yP k (m+1) l m2 he
  simp only[go_sem,n1,n2,eM]
  refine bQ ts m2 fin aa rfl [[59]] (B+41) Xx (B+44) a6 (fi hf1) Xw Xy a6 a6 XG (InF.go hin) (fun m h=>by rw[←hp,show Src.cp=[59] from rfl,h];rfl) ?_
  intro m3 hm
  rw[show Src.cp=[59] from rfl,hm,PR.bind_ok] at hp
  simp only[go_sem,n1,n2]
  refine⟨_,ab.refl _,?_⟩
  simp only[go_sem,n1,n2]
  exact InF.ret (n:=m3) (a:=.mk 6 t.text l [] []) (InF.go hin) Xw hp.symm (iU (.d _) .nil .nil) YO
 rw[if_neg (show ¬ah ts m=Src.bL from h)] at hp
 simp only[go_sem,n1,n2]
 exact CH ts m fin aa rfl Xw Xw (InF.go hin) hp.symm
section
structure SmK (ts:List Src.Tok) (fin k:Nat):Prop where
 stmt:∀(n:Nat),n≤ts.length→4*(ts.length-n)+4≤k→ft 203 [] ts n fin (gy ts k n) smV
 body:∀(n:Nat),n≤ts.length→4*(ts.length-n)+6≤k→ft 241 [] ts n fin (fN ts k n) fQ
 stmts:∀(n:Nat),n≤ts.length→4*(ts.length-n)+5≤k→ft 127 [] ts n fin (cB ts k [] n) fQ
variable {ts:List Src.Tok}{fin k n:Nat}
theorem LS (hl:ts.length≤100000) (ih:SmK ts fin k) (hnl:n≤ts.length) (hk:4*(ts.length-n)+4≤k+1):ft 203 [] ts n fin (gy ts (k+1) n) smV:=by
 intro B g ob hB hf ho
 refine hdM B [125] Tryz.func203 rfl [.cell 2 156] Xy hf fun b₀ β0 s0 w0=>?_
 have n1:=nlo hB
 have n2:=nhi hB
 have hin:InF B g ob g ob:=InF.refl
 have hf1:=hf
 obtain⟨p,hp⟩:∃p,gy ts (k+1) n=p:=⟨_,rfl⟩
 rw[hp]
 rw[gy] at hp
 simp only[go_sem,n1,n2]
 refine cj ts n fin [112,117,116] aa rfl Xw (B+55) a6 (fi hf1) XA a6 (fun h=>?_) (fun h=>?_)
 ·rw[if_pos h] at hp
  have hlt:=Src.bc h a7
  simp only[go_sem,n1,n2]
  refine az aa rfl (wx hl (k:=k) (n:=n+1) a6 a6) Xx (B+55) a6 (fi hf1) Xw (InF.go hin) (fun m h=>by rw[←hp,h];rfl) ?_
  intro l m he
  rw[he,PR.bind_ok] at hp
  have hm3:=Src.qR l m he
  simp only[go_sem,n1,n2,eM]
  refine bQ ts m fin aa rfl [[59]] (B+13) Xx (B+55) a6 (fi hf1) Xw Xy a6 a6 XG (InF.go hin) (fun m h=>by rw[←hp,show Src.cp=[59] from rfl,h];rfl) ?_
  intro m3 hm
  rw[show Src.cp=[59] from rfl,hm,PR.bind_ok] at hp
  simp only[go_sem,n1,n2]
  refine⟨_,ab.refl _,?_⟩
  simp only[go_sem,n1,n2]
  exact InF.ret (n:=m3) (a:=.mk 3 [] l [] []) (InF.go hin) Xw hp.symm (iU (.d _) .nil .nil) YO
 rw[if_neg h] at hp
 simp only[go_sem,n1,n2]
 refine cj ts n fin [114,101,116,117,114,110] aa rfl Xw (B+55) a6 (fi hf1) XA a6 (fun h=>?_) (fun h=>?_)
 ·rw[if_pos h] at hp
  have hlt:=Src.bc h a7
  simp only[go_sem,n1,n2]
  refine cj ts (n+1) fin [59] aa rfl Xw (B+55) a6 (fi hf1) Xw a6 (fun h=>?_) (fun h=>?_)
  ·rw[if_pos (show ah ts (n+1)=Src.cp from h)] at hp
   simp only[go_sem,n1,n2]
   refine⟨_,ab.refl _,?_⟩
   simp only[go_sem,n1,n2]
   exact InF.ret (n:=n+2) (a:=.mk 7 [] [] [] []) (InF.go hin) Xw hp.symm (iU .nil .nil .nil) (by simp[pack,smV,smD,mF,lq])
  rw[if_neg (show ¬ah ts (n+1)=Src.cp from h)] at hp
  simp only[go_sem,n1,n2]
  refine az aa rfl ((CI fin hl k).expr 1 (n+1) a6 a6 a6 a6) Xx (B+55) a6 (fi hf1) Xw (InF.go hin) (fun m h=>by rw[←hp,h];rfl) ?_
  intro e m2 he
  rw[he,PR.bind_ok] at hp
  have hm3:=Src.ig k 1 (n+1) e m2 he
  simp only[go_sem,n1,n2,exV,bY,j4]
  refine bQ ts m2 fin aa rfl [[59]] (B+28) Xx (B+55) a6 (fi hf1) Xw Xy a6 a6 XG (InF.go hin) (fun m h=>by rw[←hp,show Src.cp=[59] from rfl,h];rfl) ?_
  intro m3 hm
  rw[show Src.cp=[59] from rfl,hm,PR.bind_ok] at hp
  simp only[go_sem,n1,n2]
  refine⟨_,ab.refl _,?_⟩
  simp only[go_sem,n1,n2]
  exact InF.ret (n:=m3) (a:=.mk 7 [] [e] [] []) (InF.go hin) Xw hp.symm (iU (iT (l:=[e]) a6 Xw Yj rfl) .nil .nil) Ys
 rw[if_neg h] at hp
 simp only[go_sem,n1,n2]
 refine cj ts n fin [105,102] aa rfl Xw (B+55) a6 (fi hf1) XA a6 (fun h=>?_) (fun h=>?_)
 ·rw[if_pos h] at hp
  have hlt:=Src.bc h a7
  simp only[go_sem,n1,n2]
  refine az aa rfl (wx hl (k:=k) (n:=n+1) a6 a6) Xx (B+55) a6 (fi hf1) Xw (InF.go hin) (fun m h=>by rw[←hp,h];rfl) ?_
  intro l m he
  rw[he,PR.bind_ok] at hp
  have hm3:=Src.qR l m he
  have hm3':=Src.js l m he
  simp only[go_sem,n1,n2,eM]
  refine az aa rfl (ih.body m a6 a6) Xx (B+55) a6 (fi hf1) Xw (InF.go hin) (fun m h=>by rw[←hp,h];rfl) ?_
  intro th m2 he
  rw[he,PR.bind_ok] at hp
  have hm4:=Src.uc k m th m2 he
  have hm4':=Src.lB k m th m2 he
  simp only[go_sem,n1,n2,fQ]
  refine cj ts m2 fin [101,108,115,101] aa rfl Xw (B+55) a6 (fi hf1) Xw a6 (fun h=>?_) (fun h=>?_)
  ·rw[if_pos h] at hp
   have hlt:=Src.bc h a7
   simp only[go_sem,n1,n2]
   refine az aa rfl (ih.body (m2+1) a6 a6) Xx (B+55) a6 (fi hf1) Xw (InF.go hin) (fun m h=>by rw[←hp,h];rfl) ?_
   intro el m5 he
   rw[he,PR.bind_ok] at hp
   simp only[go_sem,n1,n2,fQ]
   refine⟨_,ab.refl _,?_⟩
   simp only[go_sem,n1,n2]
   exact InF.ret (n:=m5) (a:=.mk 4 [] l th el) (InF.go hin) Xw hp.symm (iU (.d _) (.d _) (.d _)) Yn
  rw[if_neg h] at hp
  simp only[go_sem,n1,n2]
  refine⟨_,ab.refl _,?_⟩
  simp only[go_sem,n1,n2]
  exact InF.ret (n:=m2) (a:=.mk 4 [] l th []) (InF.go hin) Xw hp.symm (iU (.d _) (.d _) .nil) Yn
 rw[if_neg h] at hp
 simp only[go_sem,n1,n2]
 refine cj ts n fin [119,104,105,108,101] aa rfl Xw (B+55) a6 (fi hf1) XA a6 (fun h=>?_) (fun h=>?_)
 ·rw[if_pos h] at hp
  have hlt:=Src.bc h a7
  simp only[go_sem,n1,n2]
  refine az aa rfl (wx hl (k:=k) (n:=n+1) a6 a6) Xx (B+55) a6 (fi hf1) Xw (InF.go hin) (fun m h=>by rw[←hp,h];rfl) ?_
  intro l m he
  rw[he,PR.bind_ok] at hp
  have hm3:=Src.qR l m he
  have hm3':=Src.js l m he
  simp only[go_sem,n1,n2,eM]
  refine az aa rfl (ih.body m a6 a6) Xx (B+55) a6 (fi hf1) Xw (InF.go hin) (fun m h=>by rw[←hp,h];rfl) ?_
  intro th m2 he
  rw[he,PR.bind_ok] at hp
  simp only[go_sem,n1,n2,fQ]
  refine⟨_,ab.refl _,?_⟩
  simp only[go_sem,n1,n2]
  exact InF.ret (n:=m2) (a:=.mk 5 [] l th []) (InF.go hin) Xw hp.symm (iU (.d _) (.d _) .nil) Yn
 rw[if_neg h] at hp
 simp only[go_sem,n1,n2]
 refine az aa rfl (Ik hl (k:=k) (n:=n) a6 a6) Xx (B+55) a6 (fi hf1) XA (InF.go hin) (fun m h=>by rw[←hp,h]) ?_
 intro e m2 he
 rw[he] at hp
 obtain⟨ek,es,e1,e2,e3⟩:=e
 simp only[go_sem,n1,n2,smV,smD]
 refine⟨_,ab.refl _,?_⟩
 simp only[go_sem,n1,n2]
 exact InF.ret (n:=m2) (a:=.mk ek es e1 e2 e3) (InF.go hin) Xw hp.symm (iU (.d _) (.d _) (.d _)) (by simp[pack,smV,smD])
theorem LT (hl:ts.length≤100000) (ih:SmK ts fin k) (hnl:n≤ts.length) (hk:4*(ts.length-n)+6≤k+1):ft 241 [] ts n fin (fN ts (k+1) n) fQ:=by
 intro B g ob hB hf ho
 refine hdM B [125] Tryz.func241 rfl [.tmp 2] Xy hf fun b₀ β0 s0 w0=>?_
 have n1:=nlo hB
 have n2:=nhi hB
 have hin:InF B g ob g ob:=InF.refl
 have hf1:=hf
 obtain⟨p,hp⟩:∃p,fN ts (k+1) n=p:=⟨_,rfl⟩
 rw[hp]
 rw[fN] at hp
 simp only[go_sem,n1,n2]
 refine bQ ts n fin aa rfl [[123]] (B+4) Xx (B+8) a6 (fi hf1) XA Xy a6 a6 XG (InF.go hin) (fun m h=>by rw[←hp,h];rfl) ?_
 intro m hm
 rw[hm,PR.bind_ok] at hp
 have hm1:=Src.cq (ts:=ts) a7 () m hm
 have hm2:=Src.aI () m hm
 simp only[go_sem,n1,n2]
 refine az aa rfl (ih.stmts m a6 a6) Xx (B+8) a6 (fi hf1) Xw (InF.go hin) (fun m h=>by rw[←hp,h]) ?_
 intro l m2 he
 rw[he] at hp
 simp only[go_sem,n1,n2,fQ]
 refine⟨_,ab.refl _,?_⟩
 simp only[go_sem,n1,n2]
 exact InF.ret (n:=m2) (a:=l) (rs:=[fQ l]) (InF.go hin) Xw hp.symm ⟨_,_,rfl,.one (.d _),rfl⟩ rfl
theorem HN (hl:ts.length≤100000) (ih:∀j,j≤k→SmK ts fin j) (hnl:n≤ts.length) (hk:4*(ts.length-n)+5≤k+1):ft 127 [] ts n fin (cB ts (k+1) [] n) fQ:=by
 intro B g ob hB hf ho
 refine hdM B [125] Tryz.func127 rfl [.tmp 2] Xy hf fun b₀ β0 s0 w0=>?_
 have n1:=nlo hB
 have n2:=nhi hB
 obtain⟨p,hp⟩:∃p,cB ts (k+1) [] n=p:=⟨_,rfl⟩
 rw[hp]
 simp only[go_sem,n1,n2]
 refine ai (fun z st=>∃(j n':Nat) (acc:List Stm),z+n'=ts.length∧acc.length≤n'∧4*(ts.length-n')+5≤j∧j≤k+1∧st.f 0=.one (.ptr 125 (g 125) 0)∧((acc=[]∧st.f 3=.one (.d .nsl))∨(st.f 3=.one (.osl (B+11) (st.gen (B+11)) 5 0 acc.length)∧st.obj (B+11)=some (smC acc)))∧st.obj 125=some (rdC ts n' fin)∧InF B g ob st.gen st.obj∧(∀i,B+13≤i→st.obj i=none)∧cB ts j acc n'=p) (ts.length-n) ?_ ?_
 ·refine⟨k+1,n,[],a6,a7,a6,j8 _,?_⟩
  simp only[go_sem,n1,n2]
  exact⟨.inl trivial,ho,InF.refl,fun i hi=>hf i a6,hp⟩
 clear hp
 rintro z f g1 ob1 ⟨j,n',acc,hz,hacc,hj,hjk,q0,q3,o125,hin,hf1,hp⟩
 simp only at q0 q3 o125 hin hf1
 obtain⟨j,rfl⟩:∃i,j=i+1:=⟨j-1,a6⟩
 rw[cB] at hp
 have hg:=hin.rd
 simp only[go_sem,q0]
 refine cj ts n' fin [125] aa rfl XH (B+13) a6 (fi hf1) XD a6 (fun h=>?_) (fun h=>?_)
 ·rw[if_pos h] at hp
  rcases q3 with⟨rfl,q3⟩|⟨q3,o3⟩
  ·simp only[go_sem,n1,n2,q0,q3]
   refine⟨_,ab.refl _,?_⟩
   simp only[go_sem,n1,n2,q3]
   exact InF.ret (n:=n'+1) (a:=[]) (rs:=[.one (.d (.sl []))]) (InF.go hin) Xw hp.symm ⟨_,_,rfl,.one .nil,rfl⟩ rfl
  ·simp only[go_sem,n1,n2,q0,q3]
   refine⟨_,ab.refl _,?_⟩
   simp only[go_sem,n1,n2,q3]
   exact InF.ret (n:=n'+1) (a:=acc) (InF.go hin) Xw hp.symm (wB a6 Xw (by simp only[go_sem,n1,n2,o3]) rfl) rfl
 rw[if_neg h] at hp
 have hst:=(ih j a6).stmt n' a6 a6
 rcases q3 with⟨rfl,q3⟩|⟨q3,o3⟩
 ·simp only[go_sem,n1,n2,q0,q3]
  refine az aa rfl hst XC (B+13) a6 (fi hf1) XD (InF.go hin) (fun m h=>by rw[←hp,h];rfl) ?_
  intro e m he
  rw[he,PR.bind_ok] at hp
  have hm1:=Src.ub j n' e m he
  have hm2:=Src.nW j n' e m he
  simp only[go_sem,n1,n2,smV,fM,j4,q0,q3,aD]
  refine⟨⟨a8,a6⟩,?_⟩
  refine ac (ts.length-m) a6 ⟨j,m,[]++[e],a6,by simp;omega,a6,a6,?_⟩
  simp only[go_sem,n1,n2,q0,q3]
  refine⟨.inr ?_,(InF.go hin),(fi hf1),hp⟩
  rw[l5 (by simp[fM])]
  simp[smC]
 ·have hcl:=wy acc
  simp only[go_sem,n1,n2,q0,q3]
  refine az aa rfl hst XC (B+13) a6 (fi hf1) XD (InF.go hin) (fun m h=>by rw[←hp,h];rfl) ?_
  intro e m he
  rw[he,PR.bind_ok] at hp
  have hm1:=Src.ub j n' e m he
  have hm2:=Src.nW j n' e m he
  simp only[go_sem,n1,n2,smV,fM,j4,q0,q3,o3,hcl,aD]
  refine⟨a6,⟨a8,a6⟩,?_⟩
  refine ac (ts.length-m) a6 ⟨j,m,acc++[e],a6,by rw[j5];simp;omega,a6,a6,?_⟩
  simp only[go_sem,n1,n2,q0,q3,j5]
  refine⟨.inr ?_,(InF.go hin),(fi hf1),hp⟩
  rw[l5 a6,wA,wz,l5 (by simp[fM])]
theorem TB (fin:Nat) (hl:ts.length≤100000) (k:Nat):SmK ts fin k:=by
 induction k using Nat.strongRecOn with
 |ind k ih=>
   cases k with
   |zero=>exact⟨fun _ _ h=>absurd h a6,fun _ _ h=>absurd h a6,fun _ _ h=>absurd h a6⟩
   |succ k=>exact⟨fun n h1 h2=>LS hl (ih k a6) h1 h2,fun n h1 h2=>LT hl (ih k a6) h1 h2,fun n h1 h2=>HN hl (fun j hj=>ih j a6) h1 h2⟩
end
end
end Go.Proofs.YthnomjfdcidgbaaGreatDoor
namespace Go.Am
section
attribute [local congr] Go.Am.ite_cc
theorem iR {P:Program}{rd:Option Nat}{b₀:Bs}{Φ:St→Loc→List Deferred→World→Prop}{B0:Nat}{Ψ:fO}{B:(Exit→St→Prop)→St→Prop}{b:Box B}{Q:Exit→St→Prop}{q:Box Q}{s:St} (s₁:St) (hv:ab s s₁) (I:Nat→St→Prop) (n:Nat) (h0:I n s₁)
  (hr:∀n f g ob,I n ⟨f,g,ob⟩→B (kh (bx fun s'=>∃n' s₁,n'<n∧(spF P rd b₀ Φ B0 Ψ).vs s' s₁∧I n' s₁) q) ⟨f,g,ob⟩):pu (spF P rd b₀ Φ B0 Ψ) b q s:=
 ⟨I,⟨n,s₁,hv,h0⟩,fun n s hs=>hr n s.f s.gen s.obj hs⟩
end
end Go.Am
namespace Go.Proofs.YthnomjfdcidgbaaGreatDoor
section
attribute [local congr] Go.Am.ite_cc
open Go Go.Am Go.Asm
open Go.Src (PR bO ah takeN bC Ex Stm dr cB cD ky)
def fnD (f:Src.Fn):List D:=[.str f.name,.sl (f.params.map fun s=>[.str s]),.sl (f.locals.map fun s=>[.str s]),.bool f.word,.sl (f.body.map smD)]
theorem HO (f:Src.Fn):(fnD f).length=5:=rfl
def fnV (f:Src.Fn):AV:=.agg ((fnD f).map .d)
theorem sf {P:Nat→Prop}{s:St}{id g n:Nat}{l:List Str} (hid:P id) (hg:s.gen id=g) (ho:s.obj id=some (bm l)) (hn:l.length=n):fW P s (.osl id g 1 0 n) (.sl (l.map fun s=>[.str s])):=
 eE hid hg l (fun s=>[.str s]) ho YQ (fun _ _=>rfl) hn
theorem sg (l:List Str):((l.map fun s=>([.str s]:List D)).flatten).map C.d=bm l:=by
 unfold bm
 induction l with
 |nil=>rfl
 |cons a l ih=>simpa using ih
theorem Kt {ts:List Src.Tok}{fin k n:Nat} (hl:ts.length≤100000) (hnl:n≤ts.length) (hk:4*(ts.length-n)+5≤k):ft 79 [] ts n fin (ky ts k n) fnV:=by
 intro B g ob hB hf ho
 refine hdM B [125] Tryz.func79 rfl [.cell 2 89] Xy hf fun b₀ β0 s0 w0=>?_
 have n1:=nlo hB
 have n2:=nhi hB
 have hin:InF B g ob g ob:=InF.refl
 have hf1:=hf
 obtain⟨p,hp⟩:∃p,ky ts k n=p:=⟨_,rfl⟩
 rw[hp]
 rw[ky] at hp
 simp only[go_sem,n1,n2]
 refine bQ ts n fin aa rfl [[102,117,110,99]] (B+5) Xx (B+44) a6 (fi hf1) XA Xy a6 a6 XG (InF.go hin) (fun m h=>by rw[←hp,h];rfl) ?_
 intro m hm
 rw[hm,PR.bind_ok] at hp
 have hm1:=Src.cq (ts:=ts) a7 () m hm
 have hm2:=Src.aI () m hm
 simp only[go_sem,n1,n2]
 refine az aa rfl (nl ts m fin 1 a6 a8) Xx (B+44) a6 (fi hf1) Xw (InF.go hin) (fun m h=>by rw[←hp,h];rfl) ?_
 intro t m3 ht
 rw[ht,PR.bind_ok] at hp
 have hm3:=Src.jb t m3 ht
 have hm4:=Src.cn t m3 ht
 unfold gv gK
 simp only[go_sem,n1,n2]
 refine bQ ts m3 fin aa rfl [[40]] (B+12) Xx (B+44) a6 (fi hf1) Xw Xy a6 a6 XG (InF.go hin) (fun m h=>by rw[←hp,show Src.bL=[40] from rfl,h];rfl) ?_
 intro m5 hm
 rw[show Src.bL=[40] from rfl,hm,PR.bind_ok] at hp
 have hm5:=Src.cq (ts:=ts) a7 () m5 hm
 have hm6:=Src.aI () m5 hm
 simp only[go_sem,n1,n2]
 refine vh ts m5 fin aa rfl Xw Xw ?_
 by_cases h1:bO ts m5=1
 case' pos=>
  rw[if_pos h1] at hp
  have h1i:(bO ts m5:Int)=1:=a6
  simp only[go_sem,h1i,n1,n2]
  refine az aa rfl (ww hl (k:=k) (n:=m5) a6 a6) Xx (B+44) a6 (fi hf1) Xw (InF.go hin) (fun m h=>by rw[←hp,h];rfl) ?_
  intro ps m7 he
  rw[he,PR.bind_ok] at hp
  have hm7:m7≤ts.length:=by have:=Src.nY ps m7 he;omega
  have hm7':m5≤m7:=by have:=Src.jt ps m7 he;omega
  obtain⟨cx,hfx,hcx⟩:∃cx:C,(∀s:St,fW (B≤·) s cx (.sl (ps.map fun s=>[.str s])))∧cx=.d (.sl (ps.map fun s=>[D.str s])):=⟨_,fun s=>.d _,rfl⟩
  simp only[go_sem,n1,n2,fH]
  clear he h1i h1
 case' neg=>
  have h1i:¬(bO ts m5:Int)=1:=a6
  simp only[go_sem,h1i,n1,n2]
  obtain⟨ps,hps⟩:∃ps:List Str,ps=[]:=⟨_,rfl⟩
  obtain⟨m7,hm7e⟩:∃m7,m7=m5:=⟨_,rfl⟩
  have e7:(PR.ok ([]:List Str) m5)=PR.ok ps m7:=by rw[hps,hm7e]
  rw[if_neg h1,e7,PR.bind_ok] at hp
  obtain⟨cx,hfx,hcx⟩:∃cx:C,(∀s:St,fW (B≤·) s cx (.sl (ps.map fun s=>[.str s])))∧cx=.d .nsl:=⟨_,fun s=>by rw[hps];exact .nil,rfl⟩
  clear h1i h1 e7
  have hm7:m7≤ts.length:=a6
  have hm7':m5≤m7:=a6
  rw[←hm7e]
  clear hm7e hps
 all_goals
  refine bQ ts m7 fin aa rfl [[41]] (B+21) Xx (B+44) a6 (fi hf1) Xw Xy a6 a6 XG (InF.go hin) (fun m h=>by rw[←hp,show Src.bB=[41] from rfl,h];rfl) ?_
  intro m8 hm
  rw[show Src.bB=[41] from rfl,hm,PR.bind_ok] at hp
  have hm8:=Src.cq (ts:=ts) a7 () m8 hm
  have hm8':=Src.aI () m8 hm
  simp only[go_sem,n1,n2]
  by_cases h:ah ts m8=[119,111,114,100]
  case' pos=>
   have hlt:=Src.bc h a7
   refine cj ts m8 fin [119,111,114,100] aa rfl Xw (B+44) a6 (fi hf1) Xw a6 (fun _=>?_) (fun h'=>absurd h h')
   obtain⟨w,hw⟩:∃w,w=true:=⟨_,rfl⟩
   obtain⟨m9,hm9⟩:∃m9,m9=m8+1:=⟨_,rfl⟩
   rw[if_pos h,A6 h,←hw,←hm9] at hp
   rw[←hm9]
   simp only[go_sem,n1,n2]
  case' neg=>
   refine cj ts m8 fin [119,111,114,100] aa rfl Xw (B+44) a6 (fi hf1) Xw a6 (fun h'=>absurd h' h) (fun _=>?_)
   obtain⟨w,hw⟩:∃w,w=false:=⟨_,rfl⟩
   obtain⟨m9,hm9⟩:∃m9,m9=m8:=⟨_,rfl⟩
   rw[if_neg h,x8 h,←hw,←hm9] at hp
   rw[←hm9]
   simp only[go_sem,n1,n2]
  all_goals
   clear h
   have hm9a:m9≤ts.length:=a6
   have hm9b:m8≤m9:=a6
   refine bQ ts m9 fin aa rfl [[123]] (B+27) Xx (B+44) a6 (fi hf1) Xw Xy a6 a6 XG (InF.go hin) (fun m h=>by rw[←hp,h];rfl) ?_
   intro m10 hm
   rw[hm,PR.bind_ok] at hp
   have hm10:=Src.cq (ts:=ts) a7 () m10 hm
   have hm10':=Src.aI () m10 hm
   simp only[go_sem,n1,n2]
   refine iR _ (bV (t:=3) (o:=B+3) (b:=B+35) (j:=2) (sz:=1) (off:=0) (cells:=[.d (.str t.text),cx,.d .nsl,.d (.bool w),.d .nsl]) Xw (by simp only[go_sem,n1,n2,hcx,hw]) rfl a6)
    (fun z st=>∃(j n':Nat) (acc:List Str),z+n'=ts.length∧acc.length≤n'∧ts.length-n'+1≤j∧m10≤n'∧st.f 0=.one (.ptr 125 (g 125) 0)∧st.f 2=.one (.ptr (B+2) (st.gen (B+2)) 0)∧st.f 3=.one (.ptr (B+3) (st.gen (B+3)) 0)∧(∃a b c d e,st.obj (B+2)=some [a,b,c,d,e])∧
      st.obj (B+3)=some [.d (.str t.text),cx,.osl (B+35) (st.gen (B+35)) 1 0 acc.length,.d (.bool w),.d .nsl]∧st.obj (B+35)=some (bm acc)∧st.obj 125=some (rdC ts n' fin)∧InF B g ob st.gen st.obj∧(∀i,B+44≤i→st.obj i=none)∧
      ((cD ts j acc n').bind fun ls m=>(cB ts k [] m).bind fun b m=>Src.PR.ok { name:=t.text,params:=ps,locals:=ls,word:=w,body:=b } m)=p) (ts.length-m10) ?_ ?_
   ·simp only[St.claimAt]
    refine⟨k,m10,[],a6,a7,a6,j8 _,?_⟩
    exact W2
   clear hf1 hin hp
   rintro z f g1 ob1 ⟨j,n',acc,hz,hacc,hj,hmn,q0,q2,q3,⟨a,b,c,d,e,o2⟩,o3,o35,o125,hin,hf1,hp⟩
   simp only at q0 q2 q3 o2 o3 o35 o125 hin hf1
   obtain⟨j,rfl⟩:∃i,j=i+1:=⟨j-1,a6⟩
   rw[cD] at hp
   have hg:=hin.rd
   simp only[go_sem,q0]
   refine cj ts n' fin [118,97,114] aa rfl XH (B+44) a6 (fi hf1) XD a6 (fun h=>?_) (fun h=>?_)
   ·rw[if_pos h] at hp
    have hlt:=Src.bc h a7
    have hcl:=kf acc
    simp only[go_sem,n1,n2,q0]
    obtain⟨ls,m',hgl,hlook⟩:=Kw (dr ts j (n'+1)) (G:=fun l=>l.length≤100000) [] a7 (fun l m h=>by have:=Src.AE h;have:=Src.nY l m h;omega)
    refine dw (∃a m,dr ts j (n'+1)=.ok a m) aU mixed aa [B+35,125] [([3],[1],[],false),([31],[1],[],false),([0],[],[],false),([33],[],[1],false),([32,34],[],[0],false),([3],[0,1],[],false),([36,35],[],[],true)] 2 rfl b9 rfl Xy ?_
    simp only[go_sem]
    (apply ar;(case hf=>rfl);(case hg=>first|exact l7|exact⟨_,rfl,by decide,rfl⟩);(case h1=>intro fa ga oa K' hK;simp only[go_sem,n1,n2,q3,o3] at hK ⊢;exact hK))
    (apply ar;(case hf=>rfl);(case hg=>first|exact l7|exact⟨_,rfl,by decide,rfl⟩);(case h1=>intro fa ga oa K' hK;simp only[go_sem,n1,n2,q3,o3] at hK ⊢;exact hK))
    (apply ar;(case hf=>rfl);(case hg=>first|exact l7|exact⟨_,rfl,by decide,rfl⟩);(case h1=>intro fa ga oa K' hK;simp only[go_sem,q0] at hK ⊢;exact hK))
    refine dy (v:=fH ls) (y:=some (rdC ts m' fin)) l7 a7 (fun fa ga oa K' hK=>?_) ?_
    ·simp only[go_sem,n1,n2] at hK ⊢
     refine az (k:=bx K') aa rfl (ww hl (k:=j) (n:=n'+1) a6 a6) XN (B+44) a6 (fi hf1) Xw (InF.go hin) (fun m h=>by rw[←hp,h];rfl) ?_
     exact UZ
    refine cG (a:=0) (v:=.one (.osl (B+35) (nxC (apC 9 (g1 (B+35)) 0) (g1 (B+35))) 1 0 (acc.length+ls.length))) (x:=nxC (apC 9 (g1 (B+35)) 0) (g1 (B+35))) (y:=some (bm (acc++ls))) rfl l7 (fun fa ga oa K' hK=>?_) ?_
    ·simp only[go_sem,n1,n2,fH,o35,hcl,aD,j4] at hK ⊢
     exact Vy
    (apply ar;(case hf=>rfl);(case hg=>first|exact l7|exact⟨_,rfl,by decide,rfl⟩);(case h1=>intro fa ga oa K' hK;simp only[go_sem,n1,n2,q3,o3] at hK ⊢;exact hK))
    refine dA rfl l7 ?_
    intro K' hK'
    simp only[go_sem,n1,n2,o3]
    refine hK' _ ?_
    clear hK' K'
    intro hz'
    have e:=hlook hz'
    rw[e,PR.bind_ok] at hp
    have hm1:=Src.nY ls m' e
    have hm2:=Src.jt ls m' e
    have hm3:=Src.AE e
    simp only[go_sem,n1,n2,q0]
    refine bQ ts m' fin aa rfl [[59]] (B+38) XN (B+44) a6 (fi hf1) Xw Xy a6 a6 XG (InF.go hin) (fun m h=>by rw[←hp,show Src.cp=[59] from rfl,h];rfl) ?_
    intro m4 hm
    rw[show Src.cp=[59] from rfl,hm,PR.bind_ok] at hp
    have hm4:=Src.cq (ts:=ts) a7 () m4 hm
    have hm5:=Src.aI () m4 hm
    simp only[go_sem,n1,n2]
    refine ac (ts.length-m4) a6 ⟨j,m4,acc++ls,a6,by rw[j5];omega,a6,a6,?_⟩
    simp only[go_sem,n1,n2,q0,q2,q3,j5]
    exact Xd
   ·rw[if_neg h,PR.bind_ok] at hp
    simp only[go_sem,n1,n2,q0]
    refine az aa rfl ((TB fin hl k).stmts n' a6 a6) XC (B+44) a6 (fi hf1) XD (InF.go hin) (fun m h=>by rw[←hp,h];rfl) ?_
    intro bd m4 he
    rw[he,PR.bind_ok] at hp
    simp only[go_sem,n1,n2,q2,q3,o2,o3,fQ]
    refine⟨_,ab.refl _,?_⟩
    simp only[go_sem,n1,n2,q2]
    refine InF.ret (n:=m4) (a:=⟨t.text,ps,acc,w,bd⟩) (rs:=[.agg [.d (.str t.text),.d (.sl (ps.map fun s=>[.str s])),.d (.sl (acc.map fun s=>[.str s])),.d (.bool w),.d (.sl (bd.map smD))]]) (InF.go hin) Xw hp.symm ?_ rfl
    exact⟨_,_,rfl,.agg (xs:=[.str t.text,.sl (ps.map fun s=>[.str s]),.sl (acc.map fun s=>[.str s]),.bool w,.sl (bd.map smD)]) rfl (fun i e he=>by
     match i,he with
     |0,he=>cases he;exact⟨_,rfl,.d _⟩
     |1,he=>cases he;exact⟨_,rfl,hfx _⟩
     |2,he=>cases he;exact⟨_,rfl,sf a6 Xw (by simp only[go_sem,n1,n2,o35]) rfl⟩
     |3,he=>cases he;exact⟨_,rfl,.d _⟩
     | 4,he=>cases he;exact⟨_,rfl,.d _⟩),rfl⟩
end
section
attribute [local congr] Go.Am.ite_cc
open Go Go.Am Go.Asm
open Go.Src (PR bO ah takeN bC Ex Stm dr cB cD ky jh ji jI)
section
def arD (a:Str×Int):List D:=[.str a.1,.int .i64 a.2]
def pQ (l:List (Str×Int)):List C:=l.flatMap fun a=>(arD a).map .d
theorem xT (l:List (Str×Int)):(pQ l).length=l.length*2:=by
 induction l with
 |nil=>rfl
 |cons a l ih=>simp only[pQ,C9,j5,j4,arD,j6,j7] at ih ⊢;omega
def fnC (l:List Src.Fn):List C:=l.flatMap fun a=>(fnD a).map .d
theorem Bv (l:List Src.Fn):(fnC l).length=l.length*5:=by
 induction l with
 |nil=>rfl
 |cons a l ih=>simp only[fnC,C9,j5,j4,HO,j6] at ih ⊢;omega
theorem wk (f:Src.Fn):fnC [f]=(fnD f).map .d:=by simp[fnC]
theorem Bw (l m:List Src.Fn):fnC (l++m)=fnC l++fnC m:=by simp[fnC]
def gY (p:Src.Prog):List D:=[.sl (p.vars.map fun s=>[.str s]),.sl (p.arrays.map arD),.sl (p.funcs.map fnD)]
def de (p:Src.Prog):AV:=.agg ((gY p).map .d)
variable {P:Nat→Prop}{id g n:Nat}
theorem ES{s:St}{l:List (Str×Int)} (hid:P id) (hg:s.gen id=g) (ho:s.obj id=some (pQ l)) (hn:l.length=n):fW P s (.osl id g 2 0 n) (.sl (l.map arD)):=
 eE hid hg l arD ho rfl (fun _ _=>rfl) hn
theorem Ku{s:St}{l:List Src.Fn} (hid:P id) (hg:s.gen id=g) (ho:s.obj id=some (fnC l)) (hn:l.length=n):fW P s (.osl id g 5 0 n) (.sl (l.map fnD)):=
 eE hid hg l fnD ho rfl (fun _ _=>rfl) hn
instance:Inhabited Src.Fn:=⟨⟨[],[],[],false,[]⟩⟩
theorem LU {ts:List Src.Tok}{fin k:Nat} (hl:ts.length≤100000) (hnum:∀t∈ts,t.num≤4294967295) (hk:4*ts.length+7≤k):ft 42 [] ts 0 fin (jI ts k 0) de:=by
 intro B g ob hB hf ho
 refine hdM B [125] Tryz.func42 rfl [.cell 2 30] Xy hf fun b₀ β0 s0 w0=>?_
 have n1:=nlo hB
 have n2:=nhi hB
 have hin:InF B g ob g ob:=InF.refl
 have hf1:=hf
 obtain⟨p,hp⟩:∃p,jI ts k 0=p:=⟨_,rfl⟩
 rw[hp]
 rw[jI] at hp
 simp only[go_sem,n1,n2]
 refine iR _ (((bV (t:=3) (o:=B+3) (b:=B+12) (j:=0) (sz:=1) (off:=0) (cells:=[.d .nsl,.d .nsl,.d .nsl]) Xw Xw rfl a6).trans
   (bV (t:=3) (o:=B+3) (b:=B+32) (j:=1) (sz:=2) (off:=0) (cells:=[.osl (B+12) (g (B+12)+1) 1 0 0,.d .nsl,.d .nsl]) XQ XQ rfl a6)).trans
   (bV (t:=3) (o:=B+3) (b:=B+45) (j:=2) (sz:=5) (off:=0) (cells:=[.osl (B+12) (g (B+12)+1) 1 0 0,.osl (B+32) (g (B+32)+1) 2 0 0,.d .nsl]) XQ XQ rfl a6))
  (fun z st=>∃(j n':Nat) (vs:List Str) (ars:List (Str×Int)),z+n'=ts.length∧vs.length≤n'∧ars.length≤n'∧ts.length-n'+1≤j∧st.f 0=.one (.ptr 125 (g 125) 0)∧st.f 2=.one (.ptr (B+2) (st.gen (B+2)) 0)∧st.f 3=.one (.ptr (B+3) (st.gen (B+3)) 0)∧(∃a b c,st.obj (B+2)=some [a,b,c])∧
    st.obj (B+3)=some [.osl (B+12) (st.gen (B+12)) 1 0 vs.length,.osl (B+32) (st.gen (B+32)) 2 0 ars.length,.osl (B+45) (st.gen (B+45)) 5 0 0]∧st.obj (B+12)=some (bm vs)∧st.obj (B+32)=some (pQ ars)∧st.obj (B+45)=some []∧st.obj 125=some (rdC ts n' fin)∧InF B g ob st.gen st.obj∧(∀i,B+65≤i→st.obj i=none)∧
    ((jh ts j vs ars n').bind fun h n=>(ky ts k n).bind fun f n=>(ji ts k [f] n).bind fun fs n=>PR.ok (Src.Prog.mk h.1 h.2 fs) n)=p) ts.length ?_ ?_
 ·simp only[St.claimAt]
  refine⟨k,0,[],[],a6,a7,a7,a6,?_⟩
  exact Xf
 clear hf1 hin hp
 rintro z f g1 ob1 ⟨j,n',vs,ars,hz,hvs,hars,hj,q0,q2,q3,⟨a,b,c,o2⟩,o3,o12,o32,o45,o125,hin,hf1,hp⟩
 simp only at q0 q2 q3 o2 o3 o12 o32 o45 o125 hin hf1
 obtain⟨j,rfl⟩:∃i,j=i+1:=⟨j-1,a6⟩
 rw[jh] at hp
 have hg:=hin.rd
 have hcv:=kf vs
 have hca:=xT ars
 simp only[go_sem,q0]
 refine cj ts n' fin [118,97,114] aa rfl XH (B+65) a6 (fi hf1) XD a6 (fun h=>?_) (fun h=>?_)
 ·rw[if_pos h] at hp
  have hlt:=Src.bc h a7
  simp only[go_sem,n1,n2,q0]
  obtain⟨ls,m',hgl,hlook⟩:=Kw (dr ts j (n'+1)) (G:=fun l=>l.length≤100000) [] a7 (fun l m h=>by have:=Src.AE h;have:=Src.nY l m h;omega)
  refine dw (∃a m,dr ts j (n'+1)=.ok a m) aU mixed aa [B+12,125] [([3],[1],[],false),([8],[1],[],false),([0],[],[],false),([10],[],[1],false),([9,11],[],[0],false),([3],[0,1],[],false),([13,12],[],[],true)] 2 rfl b9 rfl Xy ?_
  simp only[go_sem]
  (apply ar;(case hf=>rfl);(case hg=>first|exact l7|exact⟨_,rfl,by decide,rfl⟩);(case h1=>intro fa ga oa K' hK;simp only[go_sem,n1,n2,q3,o3] at hK ⊢;exact hK))
  (apply ar;(case hf=>rfl);(case hg=>first|exact l7|exact⟨_,rfl,by decide,rfl⟩);(case h1=>intro fa ga oa K' hK;simp only[go_sem,n1,n2,q3,o3] at hK ⊢;exact hK))
  (apply ar;(case hf=>rfl);(case hg=>first|exact l7|exact⟨_,rfl,by decide,rfl⟩);(case h1=>intro fa ga oa K' hK;simp only[go_sem,q0] at hK ⊢;exact hK))
  refine dy (v:=fH ls) (y:=some (rdC ts m' fin)) l7 a7 (fun fa ga oa K' hK=>?_) ?_
  ·simp only[go_sem,n1,n2] at hK ⊢
   refine az (k:=bx K') aa rfl (ww hl (k:=j) (n:=n'+1) a6 a6) XN (B+65) a6 (fi hf1) Xw (InF.go hin) (fun m h=>by rw[←hp,h];rfl) ?_
   exact UZ
  refine cG (a:=0) (v:=.one (.osl (B+12) (nxC (apC 9 (g1 (B+12)) 0) (g1 (B+12))) 1 0 (vs.length+ls.length))) (x:=nxC (apC 9 (g1 (B+12)) 0) (g1 (B+12))) (y:=some (bm (vs++ls))) rfl l7 (fun fa ga oa K' hK=>?_) ?_
  ·simp only[go_sem,n1,n2,fH,o12,hcv,aD,j4] at hK ⊢
   exact VG
  (apply ar;(case hf=>rfl);(case hg=>first|exact l7|exact⟨_,rfl,by decide,rfl⟩);(case h1=>intro fa ga oa K' hK;simp only[go_sem,n1,n2,q3,o3] at hK ⊢;exact hK))
  refine dA rfl l7 ?_
  intro K' hK'
  simp only[go_sem,n1,n2,o3]
  refine hK' _ ?_
  clear hK' K'
  intro hz'
  have e:=hlook hz'
  rw[e,PR.bind_ok] at hp
  have hm1:=Src.nY ls m' e
  have hm2:=Src.jt ls m' e
  have hm3:=Src.AE e
  simp only[go_sem,n1,n2,q0]
  refine bQ ts m' fin aa rfl [[59]] (B+38) XN (B+65) a6 (fi hf1) Xw Xy a6 a6 XG (InF.go hin) (fun m h=>by rw[←hp,show Src.cp=[59] from rfl,h];rfl) ?_
  intro m4 hm
  rw[show Src.cp=[59] from rfl,hm,PR.bind_ok] at hp
  have hm4:=Src.cq (ts:=ts) a7 () m4 hm
  have hm5:=Src.aI () m4 hm
  simp only[go_sem,n1,n2]
  refine ac (ts.length-m4) a6 ⟨j,m4,vs++ls,ars,a6,by rw[j5];omega,a6,a6,?_⟩
  simp only[go_sem,n1,n2,q0,q2,q3,j5]
  exact⟨⟨_,_,_,o2⟩,o32,o45,(InF.go hin),(fi hf1),hp⟩
 rw[if_neg h] at hp
 simp only[go_sem,n1,n2,q0]
 refine cj ts n' fin [97,114,114,97,121] aa rfl XH (B+65) a6 (fi hf1) XD a6 (fun h=>?_) (fun h=>?_)
 ·rw[if_pos h] at hp
  have hlt:=Src.bc h a7
  simp only[go_sem,n1,n2,q0]
  refine az aa rfl (nl ts (n'+1) fin 1 a6 a8) XC (B+65) a6 (fi hf1) Xw (InF.go hin) (fun m h=>by rw[←hp,h];rfl) ?_
  intro t m3 ht
  rw[ht,PR.bind_ok] at hp
  have hm3:=Src.jb t m3 ht
  have hm4:=Src.cn t m3 ht
  unfold gv gK
  simp only[go_sem,n1,n2,q0]
  refine bQ ts m3 fin aa rfl [[91]] (B+20) XC (B+65) a6 (fi hf1) Xw Xy a6 a6 XG (InF.go hin) (fun m h=>by rw[←hp,h];rfl) ?_
  intro m5 hm
  rw[hm,PR.bind_ok] at hp
  have hm5:=Src.cq (ts:=ts) a7 () m5 hm
  have hm6:=Src.aI () m5 hm
  simp only[go_sem,n1,n2,q0]
  refine az aa rfl (nl ts m5 fin 2 a6 a8) XC (B+65) a6 (fi hf1) Xw (InF.go hin) (fun m h=>by rw[←hp,h];rfl) ?_
  intro t2 m7 ht2
  rw[ht2,PR.bind_ok] at hp
  have hm7:=Src.jb t2 m7 ht2
  have hm8:=Src.cn t2 m7 ht2
  have hw2:IntKind.i64.wrap (t2.num:Int)=(t2.num:Int):=by
   have:t2∈ts:=by
    unfold takeN at ht2
    split at ht2
    ·rename_i t' ht'
     split at ht2
     ·cases ht2;exact l4 ht'
     ·cases ht2
    ·cases ht2
   have:=hnum t2 this
   rw[wrap_i64] <;> omega
  unfold gv gK
  simp only[go_sem,n1,n2,q0,hw2,q3,o3,o32,hca,aD]
  refine⟨a6,⟨a8,a6⟩,?_⟩
  have e1:List.take (ars.length*2) (pQ ars)++[C.d (D.str t.text),C.d (D.int IntKind.i64 ↑t2.num)]=pQ (ars++[(t.text,(t2.num:Int))]):=by
   rw[l5 a6]
   simp[pQ,arD]
  rw[e1]
  refine bQ ts m7 fin aa rfl [[93]] (B+35) XC (B+65) a6 (fi hf1) Xw Xy a6 a6 XG (InF.go hin) (fun m h=>by rw[←hp,h];rfl) ?_
  intro m9 hm
  rw[hm,PR.bind_ok] at hp
  have hm9:=Src.cq (ts:=ts) a7 () m9 hm
  have hm10:=Src.aI () m9 hm
  simp only[go_sem,n1,n2,q0]
  refine bQ ts m9 fin aa rfl [[59]] (B+38) XC (B+65) a6 (fi hf1) Xw Xy a6 a6 XG (InF.go hin) (fun m h=>by rw[←hp,show Src.cp=[59] from rfl,h];rfl) ?_
  intro m11 hm
  rw[show Src.cp=[59] from rfl,hm,PR.bind_ok] at hp
  have hm11:=Src.cq (ts:=ts) a7 () m11 hm
  have hm12:=Src.aI () m11 hm
  simp only[go_sem,n1,n2]
  refine ac (ts.length-m11) a6 ⟨j,m11,vs,ars++[(t.text,(t2.num:Int))],a6,a6,by rw[j5];simp;omega,a6,?_⟩
  simp only[go_sem,n1,n2,q0,q2,q3,j5]
  exact⟨⟨_,_,_,o2⟩,o12,o45,(InF.go hin),(fi hf1),hp⟩
 rw[if_neg h,PR.bind_ok] at hp
 simp only at hp
 simp only[go_sem,n1,n2,q0]
 obtain⟨f0,m0,hlook⟩:=look (ky ts k n')
 refine dw (∃a m,ky ts k n'=.ok a m) aU mixed aa [B+44,B+45,125] [([3],[0,2],[],false),([40],[0,2],[],false),([0],[],[],false),([42],[],[2],false),([43],[],[0],false),([41,44],[],[1],false),([3],[0,1,2],[],false),([46,45],[],[],true)] 3 rfl b9 rfl Xy ?_
 simp only[go_sem]
 (apply ar;(case hf=>rfl);(case hg=>first|exact l7|exact⟨_,rfl,by decide,rfl⟩);(case h1=>intro fa ga oa K' hK;simp only[go_sem,n1,n2,q3,o3] at hK ⊢;exact hK))
 (apply ar;(case hf=>rfl);(case hg=>first|exact l7|exact⟨_,rfl,by decide,rfl⟩);(case h1=>intro fa ga oa K' hK;simp only[go_sem,n1,n2,q3,o3] at hK ⊢;exact hK))
 (apply ar;(case hf=>rfl);(case hg=>first|exact l7|exact⟨_,rfl,by decide,rfl⟩);(case h1=>intro fa ga oa K' hK;simp only[go_sem,q0] at hK ⊢;exact hK))
 refine dy (v:=fnV f0) (y:=some (rdC ts m0 fin)) l7 a7 (fun fa ga oa K' hK=>?_) ?_
 ·simp only[go_sem,n1,n2] at hK ⊢
  refine az (k:=bx K') aa rfl (Kt hl (k:=k) (n:=n') a6 a6) XN (B+65) a6 (fi hf1) XD (InF.go hin) (fun m h=>by rw[←hp,h];rfl) ?_
  exact UZ
 (apply cG;(case hf=>rfl);(case hg=>first|exact l7|exact⟨_,rfl,by decide,rfl⟩);(case h1=>intro fa ga oa K' hK;simp only[go_sem,fnV,fnD] at hK ⊢;exact hK))
 refine cG (a:=1) (v:=.one (.osl (B+45) (nxC (apC 89 (g1 (B+45)) 0) (g1 (B+45))) 5 0 1)) (x:=nxC (apC 89 (g1 (B+45)) 0) (g1 (B+45))) (y:=some (fnC [f0])) rfl l7 (fun fa ga oa K' hK=>?_) ?_
 ·simp only[go_sem,n1,n2,o45,aD,j4,wk,fnD] at hK ⊢
  exact⟨⟨a8,a6⟩,hK⟩
 (apply ar;(case hf=>rfl);(case hg=>first|exact l7|exact⟨_,rfl,by decide,rfl⟩);(case h1=>intro fa ga oa K' hK;simp only[go_sem,n1,n2,q3,o3] at hK ⊢;exact hK))
 refine dA rfl l7 ?_
 intro K' hK'
 simp only[go_sem,n1,n2,o3]
 refine hK' _ ?_
 clear hK' K'
 intro hz'
 have e:=hlook hz'
 rw[e,PR.bind_ok] at hp
 have hm1:=Src.BR f0 m0 e
 have hm2:=Src.Gj f0 m0 e
 simp only[go_sem,n1,n2,q0]
 refine ai (fun z st=>∃(j n'':Nat) (fs:List Src.Fn),z+n''=ts.length∧fs.length≤n''∧4*(ts.length-n'')+6≤j∧st.f 0=.one (.ptr 125 (g 125) 0)∧st.f 2=.one (.ptr (B+2) (st.gen (B+2)) 0)∧st.f 3=.one (.ptr (B+3) (st.gen (B+3)) 0)∧(∃a b c,st.obj (B+2)=some [a,b,c])∧
   st.obj (B+3)=some [.osl (B+12) (st.gen (B+12)) 1 0 vs.length,.osl (B+32) (st.gen (B+32)) 2 0 ars.length,.osl (B+45) (st.gen (B+45)) 5 0 fs.length]∧st.obj (B+12)=some (bm vs)∧st.obj (B+32)=some (pQ ars)∧st.obj (B+45)=some (fnC fs)∧st.obj 125=some (rdC ts n'' fin)∧InF B g ob st.gen st.obj∧(∀i,B+65≤i→st.obj i=none)∧
   ((ji ts j fs n'').bind fun fs n=>PR.ok (Src.Prog.mk vs ars fs) n)=p) (ts.length-m0) ?_ ?_
 ·refine⟨k,m0,[f0],a6,by simp;omega,a6,?_⟩
  simp only[go_sem,n1,n2,q0,q2,q3]
  exact⟨⟨_,_,_,o2⟩,o12,o32,(InF.go hin),(fi hf1),hp⟩
 clear hf1 hin hp q0 q2 q3 o2 o3 o12 o32 o45 o125 hlook hz' e hg
 rintro z f g1 ob1 ⟨j,n'',fs,hz,hfs,hj,q0,q2,q3,⟨a,b,c,o2⟩,o3,o12,o32,o45,o125,hin,hf1,hp⟩
 simp only at q0 q2 q3 o2 o3 o12 o32 o45 o125 hin hf1
 obtain⟨j,rfl⟩:∃i,j=i+1:=⟨j-1,a6⟩
 rw[ji] at hp
 have hg:=hin.rd
 have o125':=o125
 unfold rdC cF at o125'
 have hcf:=Bv fs
 simp only[go_sem]
 refine aM b9 ?_
 by_cases hlt:n''<ts.length
 case neg=>
  rw[if_neg hlt,PR.bind_ok] at hp
  have hli:¬(n'':Int)<(ts.length:Int):=a6
  simp only[go_sem,n1,n2,hg,q0,o125',hli,j4,q2,q3,o2,o3]
  refine⟨_,ab.refl _,?_⟩
  simp only[go_sem,n1,n2,q2]
  refine InF.ret (n:=n'') (a:=⟨vs,ars,fs⟩) (rs:=[.agg [.d (.sl (vs.map fun s=>[.str s])),.d (.sl (ars.map arD)),.d (.sl (fs.map fnD))]]) (InF.go hin) XD hp.symm ?_ rfl
  exact⟨_,_,rfl,.agg (xs:=[.sl (vs.map fun s=>[.str s]),.sl (ars.map arD),.sl (fs.map fnD)]) rfl (fun i e he=>by
   match i,he with
   |0,he=>cases he;exact⟨_,rfl,sf a6 Xw (by simp only[go_sem,n1,n2,o12]) rfl⟩
   |1,he=>cases he;exact⟨_,rfl,ES a6 Xw (by simp only[go_sem,n1,n2,o32]) rfl⟩
   | 2,he=>cases he;exact⟨_,rfl,Ku a6 Xw (by simp only[go_sem,n1,n2,o45]) rfl⟩),rfl⟩
 rw[if_pos hlt] at hp
 have hli:(n'':Int)<(ts.length:Int):=a6
 simp only[go_sem,n1,n2,hg,q0,o125',hli,j4]
 obtain⟨f1,m1,hlook⟩:=look (ky ts j n'')
 refine dw (∃a m,ky ts j n''=.ok a m) aU mixed aa [B+61,B+45,125] [([3],[0,2],[],false),([57],[0,2],[],false),([0],[],[],false),([59],[],[2],false),([60],[],[0],false),([58,61],[],[1],false),([3],[0,1,2],[],false),([63,62],[],[],true)] 3 rfl b9 rfl Xy ?_
 simp only[go_sem]
 (apply ar;(case hf=>rfl);(case hg=>first|exact l7|exact⟨_,rfl,by decide,rfl⟩);(case h1=>intro fa ga oa K' hK;simp only[go_sem,n1,n2,q3,o3] at hK ⊢;exact hK))
 (apply ar;(case hf=>rfl);(case hg=>first|exact l7|exact⟨_,rfl,by decide,rfl⟩);(case h1=>intro fa ga oa K' hK;simp only[go_sem,n1,n2,q3,o3] at hK ⊢;exact hK))
 (apply ar;(case hf=>rfl);(case hg=>first|exact l7|exact⟨_,rfl,by decide,rfl⟩);(case h1=>intro fa ga oa K' hK;simp only[go_sem,q0] at hK ⊢;exact hK))
 refine dy (v:=fnV f1) (y:=some (rdC ts m1 fin)) l7 a7 (fun fa ga oa K' hK=>?_) ?_
 ·simp only[go_sem,n1,n2] at hK ⊢
  refine az (k:=bx K') aa rfl (Kt hl (k:=j) (n:=n'') a6 a6) XN (B+65) a6 (fi hf1) XD (InF.go hin) (fun m h=>by rw[←hp,h];rfl) ?_
  exact UZ
 (apply cG;(case hf=>rfl);(case hg=>first|exact l7|exact⟨_,rfl,by decide,rfl⟩);(case h1=>intro fa ga oa K' hK;simp only[go_sem,fnV,fnD] at hK ⊢;exact hK))
 refine cG (a:=1) (v:=.one (.osl (B+45) (nxC (apC 89 (g1 (B+45)) 0) (g1 (B+45))) 5 0 (fs.length+1))) (x:=nxC (apC 89 (g1 (B+45)) 0) (g1 (B+45))) (y:=some (fnC (fs++[f1]))) rfl l7 (fun fa ga oa K' hK=>?_) ?_
 ·simp only[go_sem,n1,n2,o45,aD,j4,hcf] at hK ⊢
  have e1:List.take (fs.length*5) (fnC fs)++(fnD f1).map C.d=fnC (fs++[f1]):=by
   rw[l5 a6,Bw,wk]
  simp only[fnD,l6,v7] at e1
  exact V4
 (apply ar;(case hf=>rfl);(case hg=>first|exact l7|exact⟨_,rfl,by decide,rfl⟩);(case h1=>intro fa ga oa K' hK;simp only[go_sem,n1,n2,q3,o3] at hK ⊢;exact hK))
 refine dA rfl l7 ?_
 intro K' hK'
 simp only[go_sem,n1,n2,o3]
 refine hK' _ ?_
 clear hK' K'
 intro hz'
 have e:=hlook hz'
 rw[e,PR.bind_ok] at hp
 have hm3:=Src.BR f1 m1 e
 have hm4:=Src.Gj f1 m1 e
 simp only[go_sem,n1,n2,q0]
 refine ac (ts.length-m1) a6 ⟨j,m1,fs++[f1],a6,by rw[j5];simp;omega,a6,?_⟩
 simp only[go_sem,n1,n2,q0,q2,q3,j5]
 exact⟨⟨_,_,_,o2⟩,o12,o32,(InF.go hin),(fi hf1),hp⟩
end
end
end Go.Proofs.YthnomjfdcidgbaaGreatDoor
namespace Go.Src
section
open Go.Asm (Str letter cM)
def aS (s:Str):Bool:=decide (s≠[]∧s.length≤20∧s.head?.any letter=true∧s.takeWhile cM=s∧s∉ep)
def aj (named:Bool) (s:Str):Bool:=if named then aS s else decide (s=[])
def bE (kind op num:Int) (name:Str) (n:Nat):Bool:=
 if kind=1 then decide (op=0) && aj false name && decide (n=0)
 else if kind=2 then decide (op=0∧num=0) && aj true name && decide (n=0)
 else if kind=3 then decide (op=0∧num=0) && aj true name && decide (n=1)
 else if kind=4 then decide (op=0∧num=0) && aj true name && decide (n≤6)
 else if kind=5 then decide (op=0∧num=0) && aj false name && decide (n=0)
 else if kind=6 then decide ((4≤op∧op≤15)∧num=0) && aj false name && decide (n=2)
 else if kind=7 then decide (op=0∧num=0) && aj false name && decide (n=1)
 else if kind=8∨kind=9 then decide (op=0∧num=0) && aj false name && decide (n=2)
 else false
mutual
def gp (lv:Nat):Ex→Bool
 |.mk kind op num name kids=>decide (lv≤24)&&(bE kind op num name kids.length&&bp (lv+1) kids)
def bp (lv:Nat):List Ex→Bool
 |[]=>true
 |e::l=>gp lv e&&bp lv l
end
def cl (kind:Int) (name:Str) (n nt ne:Nat):Bool:=
 if kind=1 then aj true name && decide (n=1∧nt=0∧ne=0)
 else if kind=2 then aj true name && decide (n=2∧nt=0∧ne=0)
 else if kind=3 then aj false name && decide (n=1∧nt=0∧ne=0)
 else if kind=4 then aj false name && decide (n=1)
 else if kind=5 then aj false name && decide (n=1∧ne=0)
 else if kind=6 then aj true name && decide (n≤6∧nt=0∧ne=0)
 else if kind=7 then aj false name && decide (n≤1∧nt=0∧ne=0)
 else false
mutual
def fK (lv:Nat):Stm→Bool
 |.mk kind name e th el=>decide (lv≤24)&&(cl kind name e.length th.length el.length&&bp (lv+1) e)&&(bg (lv+1) th&&bg (lv+1) el)
def bg (lv:Nat):List Stm→Bool
 |[]=>true
 |s::l=>fK lv s&&bg lv l
end
def fv (f:Fn):Bool:=aS f.name&&decide (f.params.length≤6)&&(f.params.all aS&&f.locals.all aS&&bg 1 f.body)
def iu (a:Str×Int):Bool:=aS a.1&&decide (1≤a.2)&&decide (a.2≤4096)
def eJ (p:Prog):Bool:=decide (1≤p.funcs.length∧p.funcs.length≤64)&&p.vars.all aS&&(p.arrays.all iu&&p.funcs.all fv)
mutual
def szE:Ex→Nat
 |.mk _ _ _ _ kids=>bH kids+1
def bH:List Ex→Nat
 |[]=>0
 |e::l=>szE e+bH l
end
mutual
def szS:Stm→Nat
 |.mk _ _ e th el=>bH e+bu th+bu el+1
def bu:List Stm→Nat
 |[]=>0
 |s::l=>szS s+bu l
end
theorem Jf:∀{l:List Ex}{e:Ex},e∈l→szE e≤bH l
 |x::l,e,h=>by
   rw[bH]
   rcases y2.1 h with rfl|h
   ·omega
   ·have:=Jf h;omega
theorem Jg:∀{l:List Stm}{e:Stm},e∈l→szS e≤bu l
 |x::l,e,h=>by
   rw[bu]
   rcases y2.1 h with rfl|h
   ·omega
   ·have:=Jg h;omega
theorem Gk:∀l:List Ex,l.length≤bH l
 |[]=>j8 _
 |e::l=>by have:=Gk l;cases e;simp only[bH,szE,j6];omega
theorem Gl:∀l:List Stm,l.length≤bu l
 |[]=>j8 _
 |e::l=>by have:=Gl l;cases e;simp only[bu,szS,j6];omega
theorem yR {lv:Nat}:∀l:List Ex,bp lv l=l.all (gp lv)
 |[]=>by simp[bp]
 |e::l=>by simp[bp,yR l]
theorem yS {lv:Nat}:∀l:List Stm,bg lv l=l.all (fK lv)
 |[]=>by simp[bg]
 |e::l=>by simp[bg,yS l]
theorem Rn {α:Type}{p:α→Bool}{l:List α}{k:Nat}{x:α} (h:(l.take k).all p=true) (hx:l[k]? = some x) (hp:p x=true):(l.take (k+1)).all p=true:=by
 rw[A8,hx,N1,h];simp[hp]
theorem all_false {α:Type}{p:α→Bool}{l:List α}{k:Nat}{x:α} (hx:l[k]? = some x) (hp:p x=false):l.all p=false:=by
 rw[List.all_eq_false]
 exact⟨x,l4 hx,by simp[hp]⟩
end
end Go.Src
namespace Go.Am
section
section
section
variable {P:Program}{T:Nat→TI}{b₀:Bs}{rd:Option Nat}{gb:Nat}{o:cO}{Ψ:fO}{B0:Nat}
end
end
end
end Go.Am
namespace Go.Proofs.YthnomjfdcidgbaaGreatDoor
section
attribute [local congr] Go.Am.ite_cc
open Go Go.Am Go.Asm
open Go.Src (aS)
section
variable {o:cO}
theorem LV (ho:jM o) (s:Str):bW Tryz.prog 3 o 128 [sv s] (· = bv (aS s)):=by
 refine hdG Tryz.func128 rfl [.tmp 2] fun b₀ β0 s0 w0 g=>?_
 obtain⟨z,hz⟩:∃z,aS s=z:=⟨_,rfl⟩
 rw[hz]
 unfold aS at hz
 by_cases hnil:s=[]
 ·obtain rfl:z=false:=by rw[←hz];exact x8 fun h=>h.1 hnil
  simp only[go_sem,l8 hnil]
 by_cases hlen:s.length≤20
 case neg=>
  obtain rfl:z=false:=by rw[←hz];exact x8 fun h=>hlen h.2.1
  have hli:¬(s.length:Int)≤20:=a6
  simp only[go_sem,hnil,hli]
 have hli:(s.length:Int)≤20:=a6
 obtain⟨c,hc⟩:∃c,s[0]? = some c:=by
  cases s with
  |nil=>exact absurd rfl hnil
  |cons c r=>exact⟨c,rfl⟩
 have hhd:s.head? = some c:=by rw[←hc,S9]
 simp only[go_sem,hnil,hli,hc]
 refine gU rfl (by simp only[go_sem];exact nT c) ?_
 rintro _ rfl
 cases hlc:letter c
 ·obtain rfl:z=false:=by rw[←hz];exact x8 fun h=>by have:=h.2.2.1;rw[hhd] at this;simp[hlc] at this
  exact UO
 simp only[go_sem]
 refine gU rfl (by simp only[go_sem];exact sq (fun c=>vq c) s a6) ?_
 rintro _ rfl
 by_cases hfr:s.takeWhile cM=s
 case neg=>
  obtain rfl:z=false:=by rw[←hz];exact x8 fun h=>hfr h.2.2.2.1
  simp only[go_sem,hfr]
 simp only[go_sem,hfr]
 refine cQ rfl (by simp only[go_sem];exact yB ho s) ?_
 rintro _ rfl
 by_cases hw:s∈Src.ep
 ·obtain rfl:z=false:=by rw[←hz];exact x8 fun h=>h.2.2.2.2 hw
  simp only[go_sem,hw]
 ·obtain rfl:z=true:=by rw[←hz];exact A6 ⟨hnil,hlen,by rw[hhd];simp[hlc],hfr,hw⟩
  simp only[go_sem,hw]
theorem lW (ho:jM o) (s:Str):bW Tryz.prog 3 o 81 [sv s] (· = bv (aS s)):=by
 refine hdG Tryz.func81 rfl [.tmp 2] fun b₀ β0 s0 w0 g=>?_
 have hno:s∈Src.ep→aS s=false:=fun h=>x8 fun h'=>h'.2.2.2.2 h
 obtain⟨z,hz⟩:∃z,aS s=z:=⟨_,rfl⟩
 rw[hz]
 rw[hz] at hno
 by_cases h0:s=[118,97,114]
 ·obtain rfl:=hno (by rw[h0];decide)
  simp only[go_sem,l8 h0]
 by_cases h1:s=[97,114,114,97,121]
 ·obtain rfl:=hno (by rw[h1];decide)
  simp only[go_sem,h0,l8 h1]
 by_cases h2:s=[102,117,110,99]
 ·obtain rfl:=hno (by rw[h2];decide)
  simp only[go_sem,h0,h1,l8 h2]
 by_cases h3:s=[119,111,114,100]
 ·obtain rfl:=hno (by rw[h3];decide)
  simp only[go_sem,h0,h1,h2,l8 h3]
 by_cases h4:s=[105,102]
 ·obtain rfl:=hno (by rw[h4];decide)
  simp only[go_sem,h0,h1,h2,h3,l8 h4]
 by_cases h5:s=[101,108,115,101]
 ·obtain rfl:=hno (by rw[h5];decide)
  simp only[go_sem,h0,h1,h2,h3,h4,l8 h5]
 by_cases h6:s=[119,104,105,108,101]
 ·obtain rfl:=hno (by rw[h6];decide)
  simp only[go_sem,h0,h1,h2,h3,h4,h5,l8 h6]
 by_cases h7:s=[114,101,116,117,114,110]
 ·obtain rfl:=hno (by rw[h7];decide)
  simp only[go_sem,h0,h1,h2,h3,h4,h5,h6,l8 h7]
 by_cases h8:s=[112,117,116]
 ·obtain rfl:=hno (by rw[h8];decide)
  simp only[go_sem,h0,h1,h2,h3,h4,h5,h6,h7,l8 h8]
 by_cases h9:s=[103,101,116]
 ·obtain rfl:=hno (by rw[h9];decide)
  simp only[go_sem,h0,h1,h2,h3,h4,h5,h6,h7,h8,l8 h9]
 simp only[go_sem,h0,h1,h2,h3,h4,h5,h6,h7,h8,h9]
 refine cQ rfl (by simp only[go_sem];exact LV ho s) ?_
 rintro _ rfl
 rw[hz]
 exact UO
theorem cr (ho:jM o) (s:Str) (b:Bool):bW Tryz.prog 3 o 205 [sv s,bv b] (· = bv (Src.aj b s)):=by
 refine hdG Tryz.func205 rfl [.tmp 4] fun b₀ β0 s0 w0 g=>?_
 unfold Src.aj
 cases b
 ·exact UO
 ·simp only[go_sem]
  refine cQ rfl (by simp only[go_sem];exact lW ho s) ?_
  rintro _ rfl
  exact UO
theorem oX (ho:jM o) (l:List Str) (hl:l.length≤1000000000):bW Tryz.prog 3 o 80 [fH l] (· = bv (l.all aS)):=by
 refine hdG Tryz.func80 rfl [.tmp 2] fun b₀ β0 s0 w0 g=>?_
 unfold fH
 simp only[go_sem,j4]
 refine ai (fun z st=>∃k:Nat,z+k=l.length∧(l.take k).all aS=true∧st.f 5=.one (.d (.sl (l.map fun s=>[.str s])))∧st.f 6=iv .i64 l.length∧st.f 7=iv .i64 k) l.length ?_ ?_
 ·exact WZ
 rintro z f g1 ob1 ⟨k,hk,hall,q5,q6,q7⟩
 simp only at q5 q6 q7
 have hw:=ae (k:=k) a6
 by_cases hlt:k<l.length
 case neg=>
  have hki:¬(k:Int)<(l.length:Int):=a6
  obtain rfl:k=l.length:=a6
  rw[l5 (j8 _)] at hall
  simp only[go_sem,q6,q7,hki,hall]
 have hki:(k:Int)<(l.length:Int):=a6
 have hk0:(0:Int)≤(k:Int):=a6
 obtain⟨s,hs⟩:=getq hlt
 simp only[go_sem,q5,q6,q7,hki,hk0,hs]
 refine cQ rfl (by simp only[go_sem];exact lW ho s) ?_
 rintro _ rfl
 cases hb:aS s
 ·simp only[go_sem,Src.all_false hs hb]
 ·simp only[go_sem,q7,hw]
  refine ac (z-1) a6 ⟨k+1,a6,Src.Rn hall hs hb,?_⟩
  simp only[go_sem,q5,q6]
end
end
section
attribute [local congr] Go.Am.ite_cc
open Go Go.Am Go.Asm
open Go.Src (aS aj bE cl Ex Stm)
theorem zR {o:cO} (ho:jM o) (e:Ex):bW Tryz.prog 3 o 206 [exV e] (· = bv (match e with|.mk kind op num name kids=>bE kind op num name kids.length)):=by
 obtain⟨kind,op,num,name,kids⟩:=e
 refine hdG Tryz.func206 rfl [.tmp 2] fun b₀ β0 s0 w0 g=>?_
 simp only
 obtain⟨z,hz⟩:∃z,bE kind op num name kids.length=z:=⟨_,rfl⟩
 rw[hz]
 unfold exV
 simp only[exD,aH,l6,v7]
 unfold bE at hz
 by_cases k1:kind=1
 ·rw[if_pos k1] at hz
  by_cases ho0:op=0
  case neg=>
   obtain rfl:z=false:=by rw[←hz];simp[ho0]
   simp only[go_sem,l8 k1,ho0]
  simp only[go_sem,l8 k1,l8 ho0]
  refine cQ rfl XO ?_
  rintro _ rfl
  cases hnm:aj false name
  ·obtain rfl:z=false:=by rw[←hz];simp[hnm]
   simp only[go_sem,l8 k1,l8 ho0]
  by_cases hln:kids.length=0
  case neg=>
   obtain rfl:z=false:=by rw[←hz];simp[hln]
   have hlo:(0:Int)≤(kids.length:Int):=a6
   have hhi:¬(kids.length:Int)≤0:=a6
   simp only[go_sem,l8 k1,l8 ho0,j4,hlo,hhi]
  have hlo:(0:Int)≤(kids.length:Int):=a6
  have hhi:(kids.length:Int)≤0:=a6
  obtain rfl:z=true:=by rw[←hz];simp[ho0,hnm,hln]
  simp only[go_sem,l8 k1,l8 ho0,j4,hlo,hhi]
 by_cases k2:kind=2
 ·rw[if_neg k1,if_pos k2] at hz
  by_cases ho0:op=0
  case neg=>
   obtain rfl:z=false:=by rw[←hz];simp[ho0]
   simp only[go_sem,l8 k2,k1,ho0]
  by_cases hn0:num=0
  case neg=>
   obtain rfl:z=false:=by rw[←hz];simp[hn0]
   simp only[go_sem,l8 k2,k1,l8 ho0,hn0]
  simp only[go_sem,l8 k2,k1,l8 ho0,l8 hn0]
  refine cQ rfl XY ?_
  rintro _ rfl
  cases hnm:aj true name
  ·obtain rfl:z=false:=by rw[←hz];simp[hnm]
   simp only[go_sem,l8 k2,k1,l8 ho0,l8 hn0]
  by_cases hln:kids.length=0
  case neg=>
   obtain rfl:z=false:=by rw[←hz];simp[hln]
   have hlo:(0:Int)≤(kids.length:Int):=a6
   have hhi:¬(kids.length:Int)≤0:=a6
   simp only[go_sem,l8 k2,k1,l8 ho0,l8 hn0,j4,hlo,hhi]
  have hlo:(0:Int)≤(kids.length:Int):=a6
  have hhi:(kids.length:Int)≤0:=a6
  obtain rfl:z=true:=by rw[←hz];simp[ho0,hn0,hnm,hln]
  simp only[go_sem,l8 k2,k1,l8 ho0,l8 hn0,j4,hlo,hhi]
 by_cases k3:kind=3
 ·rw[if_neg k1,if_neg k2,if_pos k3] at hz
  by_cases ho0:op=0
  case neg=>
   obtain rfl:z=false:=by rw[←hz];simp[ho0]
   simp only[go_sem,l8 k3,k1,k2,ho0]
  by_cases hn0:num=0
  case neg=>
   obtain rfl:z=false:=by rw[←hz];simp[hn0]
   simp only[go_sem,l8 k3,k1,k2,l8 ho0,hn0]
  simp only[go_sem,l8 k3,k1,k2,l8 ho0,l8 hn0]
  refine cQ rfl XY ?_
  rintro _ rfl
  cases hnm:aj true name
  ·obtain rfl:z=false:=by rw[←hz];simp[hnm]
   simp only[go_sem,l8 k3,k1,k2,l8 ho0,l8 hn0]
  by_cases hln:kids.length=1
  case neg=>
   obtain rfl:z=false:=by rw[←hz];simp[hln]
   by_cases hlo:(1:Int)≤(kids.length:Int)
   ·have hhi:¬(kids.length:Int)≤1:=a6
    simp only[go_sem,l8 k3,k1,k2,l8 ho0,l8 hn0,j4,hlo,hhi]
   ·simp only[go_sem,l8 k3,k1,k2,l8 ho0,l8 hn0,j4,hlo]
  have hlo:(1:Int)≤(kids.length:Int):=a6
  have hhi:(kids.length:Int)≤1:=a6
  obtain rfl:z=true:=by rw[←hz];simp[ho0,hn0,hnm,hln]
  simp only[go_sem,l8 k3,k1,k2,l8 ho0,l8 hn0,j4,hlo,hhi]
 by_cases k4:kind=4
 ·rw[if_neg k1,if_neg k2,if_neg k3,if_pos k4] at hz
  by_cases ho0:op=0
  case neg=>
   obtain rfl:z=false:=by rw[←hz];simp[ho0]
   simp only[go_sem,l8 k4,k1,k2,k3,ho0]
  by_cases hn0:num=0
  case neg=>
   obtain rfl:z=false:=by rw[←hz];simp[hn0]
   simp only[go_sem,l8 k4,k1,k2,k3,l8 ho0,hn0]
  simp only[go_sem,l8 k4,k1,k2,k3,l8 ho0,l8 hn0]
  refine cQ rfl XY ?_
  rintro _ rfl
  cases hnm:aj true name
  ·obtain rfl:z=false:=by rw[←hz];simp[hnm]
   simp only[go_sem,l8 k4,k1,k2,k3,l8 ho0,l8 hn0]
  have hlo:(0:Int)≤(kids.length:Int):=a6
  by_cases hln:kids.length≤6
  case neg=>
   obtain rfl:z=false:=by rw[←hz];simp;omega
   have hhi:¬(kids.length:Int)≤6:=a6
   simp only[go_sem,l8 k4,k1,k2,k3,l8 ho0,l8 hn0,j4,hlo,hhi]
  have hhi:(kids.length:Int)≤6:=a6
  obtain rfl:z=true:=by rw[←hz];simp[ho0,hn0,hnm,hln]
  simp only[go_sem,l8 k4,k1,k2,k3,l8 ho0,l8 hn0,j4,hlo,hhi]
 by_cases k5:kind=5
 ·rw[if_neg k1,if_neg k2,if_neg k3,if_neg k4,if_pos k5] at hz
  by_cases ho0:op=0
  case neg=>
   obtain rfl:z=false:=by rw[←hz];simp[ho0]
   simp only[go_sem,l8 k5,k1,k2,k3,k4,ho0]
  by_cases hn0:num=0
  case neg=>
   obtain rfl:z=false:=by rw[←hz];simp[hn0]
   simp only[go_sem,l8 k5,k1,k2,k3,k4,l8 ho0,hn0]
  simp only[go_sem,l8 k5,k1,k2,k3,k4,l8 ho0,l8 hn0]
  refine cQ rfl XO ?_
  rintro _ rfl
  cases hnm:aj false name
  ·obtain rfl:z=false:=by rw[←hz];simp[hnm]
   simp only[go_sem,l8 k5,k1,k2,k3,k4,l8 ho0,l8 hn0]
  by_cases hln:kids.length=0
  case neg=>
   obtain rfl:z=false:=by rw[←hz];simp[hln]
   have hlo:(0:Int)≤(kids.length:Int):=a6
   have hhi:¬(kids.length:Int)≤0:=a6
   simp only[go_sem,l8 k5,k1,k2,k3,k4,l8 ho0,l8 hn0,j4,hlo,hhi]
  have hlo:(0:Int)≤(kids.length:Int):=a6
  have hhi:(kids.length:Int)≤0:=a6
  obtain rfl:z=true:=by rw[←hz];simp[ho0,hn0,hnm,hln]
  simp only[go_sem,l8 k5,k1,k2,k3,k4,l8 ho0,l8 hn0,j4,hlo,hhi]
 by_cases k6:kind=6
 ·rw[if_neg k1,if_neg k2,if_neg k3,if_neg k4,if_neg k5,if_pos k6] at hz
  by_cases hol:op<4
  case pos=>
   have hx:¬4≤op:=a6
   obtain rfl:z=false:=by rw[←hz];simp[hx]
   simp only[go_sem,l8 k6,k1,k2,k3,k4,k5,hol]
  by_cases hoh:15<op
  case pos=>
   have hx:¬op≤15:=a6
   obtain rfl:z=false:=by rw[←hz];simp[hx]
   simp only[go_sem,l8 k6,k1,k2,k3,k4,k5,hol,hoh]
  have hx1:4≤op:=a6
  have hx2:op≤15:=a6
  by_cases hn0:num=0
  case neg=>
   obtain rfl:z=false:=by rw[←hz];simp[hn0]
   simp only[go_sem,l8 k6,k1,k2,k3,k4,k5,hol,hoh,hn0]
  simp only[go_sem,l8 k6,k1,k2,k3,k4,k5,hol,hoh,l8 hn0]
  refine cQ rfl XO ?_
  rintro _ rfl
  cases hnm:aj false name
  ·obtain rfl:z=false:=by rw[←hz];simp[hnm]
   simp only[go_sem,l8 k6,k1,k2,k3,k4,k5,hol,hoh,l8 hn0]
  by_cases hln:kids.length=2
  case neg=>
   obtain rfl:z=false:=by rw[←hz];simp[hln]
   by_cases hlo:(2:Int)≤(kids.length:Int)
   ·have hhi:¬(kids.length:Int)≤2:=a6
    simp only[go_sem,l8 k6,k1,k2,k3,k4,k5,hol,hoh,l8 hn0,j4,hlo,hhi]
   ·simp only[go_sem,l8 k6,k1,k2,k3,k4,k5,hol,hoh,l8 hn0,j4,hlo]
  have hlo:(2:Int)≤(kids.length:Int):=a6
  have hhi:(kids.length:Int)≤2:=a6
  obtain rfl:z=true:=by rw[←hz];simp[hx1,hx2,hn0,hnm,hln]
  simp only[go_sem,l8 k6,k1,k2,k3,k4,k5,hol,hoh,l8 hn0,j4,hlo,hhi]
 by_cases k7:kind=7
 ·rw[if_neg k1,if_neg k2,if_neg k3,if_neg k4,if_neg k5,if_neg k6,if_pos k7] at hz
  by_cases ho0:op=0
  case neg=>
   obtain rfl:z=false:=by rw[←hz];simp[ho0]
   simp only[go_sem,l8 k7,k1,k2,k3,k4,k5,k6,ho0]
  by_cases hn0:num=0
  case neg=>
   obtain rfl:z=false:=by rw[←hz];simp[hn0]
   simp only[go_sem,l8 k7,k1,k2,k3,k4,k5,k6,l8 ho0,hn0]
  simp only[go_sem,l8 k7,k1,k2,k3,k4,k5,k6,l8 ho0,l8 hn0]
  refine cQ rfl XO ?_
  rintro _ rfl
  cases hnm:aj false name
  ·obtain rfl:z=false:=by rw[←hz];simp[hnm]
   simp only[go_sem,l8 k7,k1,k2,k3,k4,k5,k6,l8 ho0,l8 hn0]
  by_cases hln:kids.length=1
  case neg=>
   obtain rfl:z=false:=by rw[←hz];simp[hln]
   by_cases hlo:(1:Int)≤(kids.length:Int)
   ·have hhi:¬(kids.length:Int)≤1:=a6
    simp only[go_sem,l8 k7,k1,k2,k3,k4,k5,k6,l8 ho0,l8 hn0,j4,hlo,hhi]
   ·simp only[go_sem,l8 k7,k1,k2,k3,k4,k5,k6,l8 ho0,l8 hn0,j4,hlo]
  have hlo:(1:Int)≤(kids.length:Int):=a6
  have hhi:(kids.length:Int)≤1:=a6
  obtain rfl:z=true:=by rw[←hz];simp[ho0,hn0,hnm,hln]
  simp only[go_sem,l8 k7,k1,k2,k3,k4,k5,k6,l8 ho0,l8 hn0,j4,hlo,hhi]
 by_cases k8:kind=8
 ·rw[if_neg k1,if_neg k2,if_neg k3,if_neg k4,if_neg k5,if_neg k6,if_neg k7,if_pos (Or.inl k8)] at hz
  by_cases ho0:op=0
  case neg=>
   obtain rfl:z=false:=by rw[←hz];simp[ho0]
   simp only[go_sem,l8 k8,k1,k2,k3,k4,k5,k6,k7,ho0]
  by_cases hn0:num=0
  case neg=>
   obtain rfl:z=false:=by rw[←hz];simp[hn0]
   simp only[go_sem,l8 k8,k1,k2,k3,k4,k5,k6,k7,l8 ho0,hn0]
  simp only[go_sem,l8 k8,k1,k2,k3,k4,k5,k6,k7,l8 ho0,l8 hn0]
  refine cQ rfl XO ?_
  rintro _ rfl
  cases hnm:aj false name
  ·obtain rfl:z=false:=by rw[←hz];simp[hnm]
   simp only[go_sem,l8 k8,k1,k2,k3,k4,k5,k6,k7,l8 ho0,l8 hn0]
  by_cases hln:kids.length=2
  case neg=>
   obtain rfl:z=false:=by rw[←hz];simp[hln]
   by_cases hlo:(2:Int)≤(kids.length:Int)
   ·have hhi:¬(kids.length:Int)≤2:=a6
    simp only[go_sem,l8 k8,k1,k2,k3,k4,k5,k6,k7,l8 ho0,l8 hn0,j4,hlo,hhi]
   ·simp only[go_sem,l8 k8,k1,k2,k3,k4,k5,k6,k7,l8 ho0,l8 hn0,j4,hlo]
  have hlo:(2:Int)≤(kids.length:Int):=a6
  have hhi:(kids.length:Int)≤2:=a6
  obtain rfl:z=true:=by rw[←hz];simp[ho0,hn0,hnm,hln]
  simp only[go_sem,l8 k8,k1,k2,k3,k4,k5,k6,k7,l8 ho0,l8 hn0,j4,hlo,hhi]
 by_cases k9:kind=9
 ·rw[if_neg k1,if_neg k2,if_neg k3,if_neg k4,if_neg k5,if_neg k6,if_neg k7,if_pos (Or.inr k9)] at hz
  by_cases ho0:op=0
  case neg=>
   obtain rfl:z=false:=by rw[←hz];simp[ho0]
   simp only[go_sem,l8 k9,k1,k2,k3,k4,k5,k6,k7,k8,ho0]
  by_cases hn0:num=0
  case neg=>
   obtain rfl:z=false:=by rw[←hz];simp[hn0]
   simp only[go_sem,l8 k9,k1,k2,k3,k4,k5,k6,k7,k8,l8 ho0,hn0]
  simp only[go_sem,l8 k9,k1,k2,k3,k4,k5,k6,k7,k8,l8 ho0,l8 hn0]
  refine cQ rfl XO ?_
  rintro _ rfl
  cases hnm:aj false name
  ·obtain rfl:z=false:=by rw[←hz];simp[hnm]
   simp only[go_sem,l8 k9,k1,k2,k3,k4,k5,k6,k7,k8,l8 ho0,l8 hn0]
  by_cases hln:kids.length=2
  case neg=>
   obtain rfl:z=false:=by rw[←hz];simp[hln]
   by_cases hlo:(2:Int)≤(kids.length:Int)
   ·have hhi:¬(kids.length:Int)≤2:=a6
    simp only[go_sem,l8 k9,k1,k2,k3,k4,k5,k6,k7,k8,l8 ho0,l8 hn0,j4,hlo,hhi]
   ·simp only[go_sem,l8 k9,k1,k2,k3,k4,k5,k6,k7,k8,l8 ho0,l8 hn0,j4,hlo]
  have hlo:(2:Int)≤(kids.length:Int):=a6
  have hhi:(kids.length:Int)≤2:=a6
  obtain rfl:z=true:=by rw[←hz];simp[ho0,hn0,hnm,hln]
  simp only[go_sem,l8 k9,k1,k2,k3,k4,k5,k6,k7,k8,l8 ho0,l8 hn0,j4,hlo,hhi]
 obtain rfl:z=false:=by rw[←hz];simp[k1,k2,k3,k4,k5,k6,k7,k8,k9]
 simp only[go_sem,k1,k2,k3,k4,k5,k6,k7,k8,k9]
end
section
attribute [local congr] Go.Am.ite_cc
open Go Go.Am Go.Asm
open Go.Src (aS aj bE cl gp bp szE bH Ex Stm)
theorem wl {o:cO} (ho:jM o):∀(N:Nat) (l:List Ex) (lv:Nat),bH l≤N→N≤1000000000→lv≤25→bW Tryz.prog 3 o 130 [eM l,iv .i64 lv] (· = bv (bp lv l)):=by
 intro N
 induction N using Nat.strongRecOn with
 |ind N ih=>
 intro l lv hsz hN hlv
 refine hdG Tryz.func130 rfl [.tmp 4] fun b₀ β0 s0 w0 g=>?_
 obtain⟨z,hz⟩:∃z,bp lv l=z:=⟨_,rfl⟩
 rw[hz]
 have hll:=Src.Gk l
 have hwl:=ae (k:=lv) a6
 unfold eM
 by_cases hbad:0<l.length∧24<lv
 ·have h1:(0:Int)<(l.length:Int):=a6
  have h2:(24:Int)<(lv:Int):=a6
  obtain rfl:z=false:=by
   rw[←hz]
   cases l with
   |nil=>simp at hbad
   |cons e l=>obtain⟨kind,op,num,name,kids⟩:=e;simp[bp,gp];omega
  simp only[go_sem,j4,h1,h2]
 by_cases hl0:l=[]
 ·subst hl0
  obtain rfl:z=true:=by rw[←hz];simp[bp]
  exact VE
 have hlp:0<l.length:=Q1.2 hl0
 have hc:(0:Int)<(l.length:Int):=a6
 have hc2:¬(24:Int)<(lv:Int):=a6
 simp only[go_sem,j4,hc,hc2]
 refine ai (fun m st=>∃k:Nat,m+k=l.length∧(l.take k).all (gp lv)=true∧st.f 1=iv .i64 lv∧st.f 14=.one (.d (.sl (l.map exD)))∧st.f 15=iv .i64 l.length∧st.f 16=iv .i64 k) l.length ?_ ?_
 ·exact WZ
 rintro m f g1 ob1 ⟨k,hk,hall,q1,q14,q15,q16⟩
 simp only at q1 q14 q15 q16
 have hw:=ae (k:=k) a6
 by_cases hlt:k<l.length
 case neg=>
  have hki:¬(k:Int)<(l.length:Int):=a6
  obtain rfl:k=l.length:=a6
  rw[l5 (j8 _)] at hall
  obtain rfl:z=true:=by rw[←hz,Src.yR];exact hall
  simp only[go_sem,q15,q16,hki]
 have hki:(k:Int)<(l.length:Int):=a6
 have hk0:(0:Int)≤(k:Int):=a6
 obtain⟨e,he⟩:=getq hlt
 obtain⟨kind,op,num,name,kids⟩:=e
 have hszk:=Src.Jf (l4 he)
 rw[szE] at hszk
 have hE:exD (.mk kind op num name kids)=[.int .i64 kind,.int .i64 op,.int .u32 num,.str name,.sl (kids.map exD)]:=by simp only[exD,aH]
 have hF:=zR ho (.mk kind op num name kids)
 have hK:=ih (bH kids) a6 kids (lv+1) (j8 _) a6 a6
 unfold exV at hF
 unfold eM at hK
 rw[hE] at hF
 simp only[l6,v7] at hF
 have hl24:lv≤24:=a6
 simp only[go_sem,q1,q14,q15,q16,hki,hk0,he,hE]
 refine cQ rfl Zb ?_
 rintro _ rfl
 cases hf:bE kind op num name kids.length
 ·obtain rfl:z=false:=by rw[←hz,Src.yR];exact Src.all_false he (by simp[gp,hf])
  simp only[go_sem,hf]
 simp only[go_sem,q1,hwl]
 refine cQ rfl (by simp only[go_sem,q1,hwl];exact hK) ?_
 rintro _ rfl
 cases hr:bp (lv+1) kids
 ·obtain rfl:z=false:=by rw[←hz,Src.yR];exact Src.all_false he (by simp[gp,hf,hr])
  exact UO
 ·simp only[go_sem,q16,hw]
  refine ac (m-1) a6 ⟨k+1,a6,Src.Rn hall he (by simp[gp,hf,hr,hl24]),?_⟩
  simp only[go_sem,q1,q14,q15]
theorem zS {o:cO} (ho:jM o) (e:Stm):bW Tryz.prog 3 o 129 [smV e] (· = bv (match e with|.mk kind name e th el=>cl kind name e.length th.length el.length)):=by
 obtain⟨kind,name,e,th,el⟩:=e
 refine hdG Tryz.func129 rfl [.tmp 2] fun b₀ β0 s0 w0 g=>?_
 simp only
 obtain⟨z,hz⟩:∃z,cl kind name e.length th.length el.length=z:=⟨_,rfl⟩
 rw[hz]
 unfold smV
 simp only[smD,aH,eg,l6,v7]
 unfold cl at hz
 by_cases k1:kind=1
 ·rw[if_pos k1] at hz
  simp only[go_sem,l8 k1]
  refine cQ rfl XY ?_
  rintro _ rfl
  cases hnm:aj true name
  ·obtain rfl:z=false:=by rw[←hz];simp[hnm]
   simp only[go_sem,l8 k1]
  have e0:(0:Int)≤(e.length:Int):=a6
  by_cases hlo:(e.length:Int)<1
  ·obtain rfl:z=false:=by rw[←hz,hnm,u7];exact x8 a6
   simp only[go_sem,l8 k1,j4,hlo]
  by_cases hhi:(1:Int)<(e.length:Int)
  ·obtain rfl:z=false:=by rw[←hz,hnm,u7];exact x8 a6
   simp only[go_sem,l8 k1,j4,hlo,hhi]
  by_cases hth:(th.length:Int)=0
  case neg=>
   obtain rfl:z=false:=by rw[←hz,hnm,u7];exact x8 a6
   simp only[go_sem,l8 k1,j4,hlo,hhi,hth]
  by_cases hel:(el.length:Int)=0
  case neg=>
   obtain rfl:z=false:=by rw[←hz,hnm,u7];exact x8 a6
   simp only[go_sem,l8 k1,j4,hlo,hhi,hth,hel]
  obtain rfl:z=true:=by rw[←hz,hnm,u7];exact A6 a6
  simp only[go_sem,l8 k1,j4,hlo,hhi,hth,hel]
 by_cases k2:kind=2
 ·rw[if_neg k1,if_pos k2] at hz
  simp only[go_sem,l8 k2,k1]
  refine cQ rfl XY ?_
  rintro _ rfl
  cases hnm:aj true name
  ·obtain rfl:z=false:=by rw[←hz];simp[hnm]
   simp only[go_sem,l8 k2,k1]
  have e0:(0:Int)≤(e.length:Int):=a6
  by_cases hlo:(e.length:Int)<2
  ·obtain rfl:z=false:=by rw[←hz,hnm,u7];exact x8 a6
   simp only[go_sem,l8 k2,k1,j4,hlo]
  by_cases hhi:(2:Int)<(e.length:Int)
  ·obtain rfl:z=false:=by rw[←hz,hnm,u7];exact x8 a6
   simp only[go_sem,l8 k2,k1,j4,hlo,hhi]
  by_cases hth:(th.length:Int)=0
  case neg=>
   obtain rfl:z=false:=by rw[←hz,hnm,u7];exact x8 a6
   simp only[go_sem,l8 k2,k1,j4,hlo,hhi,hth]
  by_cases hel:(el.length:Int)=0
  case neg=>
   obtain rfl:z=false:=by rw[←hz,hnm,u7];exact x8 a6
   simp only[go_sem,l8 k2,k1,j4,hlo,hhi,hth,hel]
  obtain rfl:z=true:=by rw[←hz,hnm,u7];exact A6 a6
  simp only[go_sem,l8 k2,k1,j4,hlo,hhi,hth,hel]
 by_cases k3:kind=3
 ·rw[if_neg k1,if_neg k2,if_pos k3] at hz
  simp only[go_sem,l8 k3,k1,k2]
  refine cQ rfl XO ?_
  rintro _ rfl
  cases hnm:aj false name
  ·obtain rfl:z=false:=by rw[←hz];simp[hnm]
   simp only[go_sem,l8 k3,k1,k2]
  have e0:(0:Int)≤(e.length:Int):=a6
  by_cases hlo:(e.length:Int)<1
  ·obtain rfl:z=false:=by rw[←hz,hnm,u7];exact x8 a6
   simp only[go_sem,l8 k3,k1,k2,j4,hlo]
  by_cases hhi:(1:Int)<(e.length:Int)
  ·obtain rfl:z=false:=by rw[←hz,hnm,u7];exact x8 a6
   simp only[go_sem,l8 k3,k1,k2,j4,hlo,hhi]
  by_cases hth:(th.length:Int)=0
  case neg=>
   obtain rfl:z=false:=by rw[←hz,hnm,u7];exact x8 a6
   simp only[go_sem,l8 k3,k1,k2,j4,hlo,hhi,hth]
  by_cases hel:(el.length:Int)=0
  case neg=>
   obtain rfl:z=false:=by rw[←hz,hnm,u7];exact x8 a6
   simp only[go_sem,l8 k3,k1,k2,j4,hlo,hhi,hth,hel]
  obtain rfl:z=true:=by rw[←hz,hnm,u7];exact A6 a6
  simp only[go_sem,l8 k3,k1,k2,j4,hlo,hhi,hth,hel]
 by_cases k4:kind=4
 ·rw[if_neg k1,if_neg k2,if_neg k3,if_pos k4] at hz
  simp only[go_sem,l8 k4,k1,k2,k3]
  refine cQ rfl XO ?_
  rintro _ rfl
  cases hnm:aj false name
  ·obtain rfl:z=false:=by rw[←hz];simp[hnm]
   simp only[go_sem,l8 k4,k1,k2,k3]
  have e0:(0:Int)≤(e.length:Int):=a6
  by_cases hlo:(e.length:Int)<1
  ·obtain rfl:z=false:=by rw[←hz,hnm,u7];exact x8 a6
   simp only[go_sem,l8 k4,k1,k2,k3,j4,hlo]
  by_cases hhi:(1:Int)<(e.length:Int)
  ·obtain rfl:z=false:=by rw[←hz,hnm,u7];exact x8 a6
   simp only[go_sem,l8 k4,k1,k2,k3,j4,hlo,hhi]
  obtain rfl:z=true:=by rw[←hz,hnm,u7];exact A6 a6
  simp only[go_sem,l8 k4,k1,k2,k3,j4,hlo,hhi]
 by_cases k5:kind=5
 ·rw[if_neg k1,if_neg k2,if_neg k3,if_neg k4,if_pos k5] at hz
  simp only[go_sem,l8 k5,k1,k2,k3,k4]
  refine cQ rfl XO ?_
  rintro _ rfl
  cases hnm:aj false name
  ·obtain rfl:z=false:=by rw[←hz];simp[hnm]
   simp only[go_sem,l8 k5,k1,k2,k3,k4]
  have e0:(0:Int)≤(e.length:Int):=a6
  by_cases hlo:(e.length:Int)<1
  ·obtain rfl:z=false:=by rw[←hz,hnm,u7];exact x8 a6
   simp only[go_sem,l8 k5,k1,k2,k3,k4,j4,hlo]
  by_cases hhi:(1:Int)<(e.length:Int)
  ·obtain rfl:z=false:=by rw[←hz,hnm,u7];exact x8 a6
   simp only[go_sem,l8 k5,k1,k2,k3,k4,j4,hlo,hhi]
  by_cases hel:(el.length:Int)=0
  case neg=>
   obtain rfl:z=false:=by rw[←hz,hnm,u7];exact x8 a6
   simp only[go_sem,l8 k5,k1,k2,k3,k4,j4,hlo,hhi,hel]
  obtain rfl:z=true:=by rw[←hz,hnm,u7];exact A6 a6
  simp only[go_sem,l8 k5,k1,k2,k3,k4,j4,hlo,hhi,hel]
 by_cases k6:kind=6
 ·rw[if_neg k1,if_neg k2,if_neg k3,if_neg k4,if_neg k5,if_pos k6] at hz
  simp only[go_sem,l8 k6,k1,k2,k3,k4,k5]
  refine cQ rfl XY ?_
  rintro _ rfl
  cases hnm:aj true name
  ·obtain rfl:z=false:=by rw[←hz];simp[hnm]
   simp only[go_sem,l8 k6,k1,k2,k3,k4,k5]
  have e0:(0:Int)≤(e.length:Int):=a6
  have hlo:¬(e.length:Int)<0:=a6
  by_cases hhi:(6:Int)<(e.length:Int)
  ·obtain rfl:z=false:=by rw[←hz,hnm,u7];exact x8 a6
   simp only[go_sem,l8 k6,k1,k2,k3,k4,k5,j4,hlo,hhi]
  by_cases hth:(th.length:Int)=0
  case neg=>
   obtain rfl:z=false:=by rw[←hz,hnm,u7];exact x8 a6
   simp only[go_sem,l8 k6,k1,k2,k3,k4,k5,j4,hlo,hhi,hth]
  by_cases hel:(el.length:Int)=0
  case neg=>
   obtain rfl:z=false:=by rw[←hz,hnm,u7];exact x8 a6
   simp only[go_sem,l8 k6,k1,k2,k3,k4,k5,j4,hlo,hhi,hth,hel]
  obtain rfl:z=true:=by rw[←hz,hnm,u7];exact A6 a6
  simp only[go_sem,l8 k6,k1,k2,k3,k4,k5,j4,hlo,hhi,hth,hel]
 by_cases k7:kind=7
 ·rw[if_neg k1,if_neg k2,if_neg k3,if_neg k4,if_neg k5,if_neg k6,if_pos k7] at hz
  simp only[go_sem,l8 k7,k1,k2,k3,k4,k5,k6]
  refine cQ rfl XO ?_
  rintro _ rfl
  cases hnm:aj false name
  ·obtain rfl:z=false:=by rw[←hz];simp[hnm]
   simp only[go_sem,l8 k7,k1,k2,k3,k4,k5,k6]
  have e0:(0:Int)≤(e.length:Int):=a6
  have hlo:¬(e.length:Int)<0:=a6
  by_cases hhi:(1:Int)<(e.length:Int)
  ·obtain rfl:z=false:=by rw[←hz,hnm,u7];exact x8 a6
   simp only[go_sem,l8 k7,k1,k2,k3,k4,k5,k6,j4,hlo,hhi]
  by_cases hth:(th.length:Int)=0
  case neg=>
   obtain rfl:z=false:=by rw[←hz,hnm,u7];exact x8 a6
   simp only[go_sem,l8 k7,k1,k2,k3,k4,k5,k6,j4,hlo,hhi,hth]
  by_cases hel:(el.length:Int)=0
  case neg=>
   obtain rfl:z=false:=by rw[←hz,hnm,u7];exact x8 a6
   simp only[go_sem,l8 k7,k1,k2,k3,k4,k5,k6,j4,hlo,hhi,hth,hel]
  obtain rfl:z=true:=by rw[←hz,hnm,u7];exact A6 a6
  simp only[go_sem,l8 k7,k1,k2,k3,k4,k5,k6,j4,hlo,hhi,hth,hel]
 obtain rfl:z=false:=by rw[←hz];simp[k1,k2,k3,k4,k5,k6,k7]
 simp only[go_sem,k1,k2,k3,k4,k5,k6,k7]
end
section
attribute [local congr] Go.Am.ite_cc
open Go Go.Am Go.Asm
open Go.Src (aS aj bE cl gp bp fK bg fv iu eJ szE bH szS bu Ex Stm)
theorem wm {o:cO} (ho:jM o):∀(N:Nat) (l:List Stm) (lv:Nat),bu l≤N→N≤1000000000→lv≤25→bW Tryz.prog 3 o 82 [fQ l,iv .i64 lv] (· = bv (bg lv l)):=by
 intro N
 induction N using Nat.strongRecOn with
 |ind N ih=>
 intro l lv hsz hN hlv
 refine hdG Tryz.func82 rfl [.tmp 4] fun b₀ β0 s0 w0 g=>?_
 obtain⟨z,hz⟩:∃z,bg lv l=z:=⟨_,rfl⟩
 rw[hz]
 have hll:=Src.Gl l
 have hwl:=ae (k:=lv) a6
 unfold fQ
 by_cases hbad:0<l.length∧24<lv
 ·have h1:(0:Int)<(l.length:Int):=a6
  have h2:(24:Int)<(lv:Int):=a6
  obtain rfl:z=false:=by
   rw[←hz]
   cases l with
   |nil=>simp at hbad
   |cons e l=>
     obtain⟨kind,name,e,th,el⟩:=e
     have:¬lv≤24:=a6
     simp[bg,fK,this]
  simp only[go_sem,j4,h1,h2]
 by_cases hl0:l=[]
 ·subst hl0
  obtain rfl:z=true:=by rw[←hz];simp[bg]
  exact VE
 have hlp:0<l.length:=Q1.2 hl0
 have hc:(0:Int)<(l.length:Int):=a6
 have hc2:¬(24:Int)<(lv:Int):=a6
 simp only[go_sem,j4,hc,hc2]
 refine ai (fun m st=>∃k:Nat,m+k=l.length∧(l.take k).all (fK lv)=true∧st.f 1=iv .i64 lv∧st.f 14=.one (.d (.sl (l.map smD)))∧st.f 15=iv .i64 l.length∧st.f 16=iv .i64 k) l.length ?_ ?_
 ·exact WZ
 rintro m f g1 ob1 ⟨k,hk,hall,q1,q14,q15,q16⟩
 simp only at q1 q14 q15 q16
 have hw:=ae (k:=k) a6
 by_cases hlt:k<l.length
 case neg=>
  have hki:¬(k:Int)<(l.length:Int):=a6
  obtain rfl:k=l.length:=a6
  rw[l5 (j8 _)] at hall
  obtain rfl:z=true:=by rw[←hz,Src.yS];exact hall
  simp only[go_sem,q15,q16,hki]
 have hki:(k:Int)<(l.length:Int):=a6
 have hk0:(0:Int)≤(k:Int):=a6
 obtain⟨e,he⟩:=getq hlt
 obtain⟨kind,name,es,th,el⟩:=e
 have hszk:=Src.Jg (l4 he)
 rw[szS] at hszk
 have hE:smD (.mk kind name es th el)=[.int .i64 kind,.str name,.sl (es.map exD),.sl (th.map smD),.sl (el.map smD)]:=by simp only[smD,aH,eg]
 have hF:=zS ho (.mk kind name es th el)
 have hX:=wl ho (bH es) es (lv+1) (j8 _) a6 a6
 have hT:=ih (bu th) a6 th (lv+1) (j8 _) a6 a6
 have hL:=ih (bu el) a6 el (lv+1) (j8 _) a6 a6
 unfold smV at hF
 unfold eM at hX
 unfold fQ at hT hL
 rw[hE] at hF
 simp only[l6,v7] at hF
 have hl24:lv≤24:=a6
 simp only[go_sem,q1,q14,q15,q16,hki,hk0,he,hE]
 refine cQ rfl Zb ?_
 rintro _ rfl
 cases hf:cl kind name es.length th.length el.length
 ·obtain rfl:z=false:=by rw[←hz,Src.yS];exact Src.all_false he (by simp[fK,hf])
  simp only[go_sem,hf]
 simp only[go_sem,q1,hwl]
 refine cQ rfl (by simp only[go_sem,q1,hwl];exact hX) ?_
 rintro _ rfl
 cases hr:bp (lv+1) es
 ·obtain rfl:z=false:=by rw[←hz,Src.yS];exact Src.all_false he (by simp[fK,hf,hr])
  exact UO
 simp only[go_sem,q1,hwl]
 refine cQ rfl (by simp only[go_sem,q1,hwl];exact hT) ?_
 rintro _ rfl
 cases ht:bg (lv+1) th
 ·obtain rfl:z=false:=by rw[←hz,Src.yS];exact Src.all_false he (by simp[fK,hf,hr,ht])
  exact UO
 simp only[go_sem,q1,hwl]
 refine cQ rfl (by simp only[go_sem,q1,hwl];exact hL) ?_
 rintro _ rfl
 cases hel:bg (lv+1) el
 ·obtain rfl:z=false:=by rw[←hz,Src.yS];exact Src.all_false he (by simp[fK,hf,hr,ht,hel])
  exact UO
 ·simp only[go_sem,q16,hw]
  refine ac (m-1) a6 ⟨k+1,a6,Src.Rn hall he (by simp[fK,hf,hr,ht,hel,hl24]),?_⟩
  simp only[go_sem,q1,q14,q15]
def szP (p:Src.Prog):Nat:=p.vars.length+p.arrays.length+p.funcs.length+(p.funcs.map fun f=>f.params.length+f.locals.length+bu f.body).sum
theorem nO {p:Src.Prog}{f:Src.Fn} (h:f∈p.funcs):f.params.length+f.locals.length+bu f.body≤szP p:=by
 have:∀l:List Src.Fn,f∈l→f.params.length+f.locals.length+bu f.body≤(l.map fun f=>f.params.length+f.locals.length+bu f.body).sum:=by
  intro l
  induction l with
  |nil=>intro h;cases h
  |cons x l ih=>
    intro h
    rw[l6,E0]
    rcases y2.1 h with rfl|h
    ·omega
    ·have:=ih h;omega
 have:=this _ h
 unfold szP
 omega
theorem Bx {o:cO} (ho:jM o) (p:Src.Prog) (hsz:szP p≤1000000000):bW Tryz.prog 3 o 43 [de p] (· = bv (eJ p)):=by
 refine hdG Tryz.func43 rfl [.tmp 2] fun b₀ β0 s0 w0 g=>?_
 obtain⟨z,hz⟩:∃z,eJ p=z:=⟨_,rfl⟩
 rw[hz]
 obtain⟨vs,ars,fs⟩:=p
 have hszp:=hsz
 unfold szP at hsz
 simp only at hsz
 unfold eJ at hz
 simp only at hz
 unfold de gY
 by_cases h1:fs.length<1
 ·have h1i:(fs.length:Int)<1:=a6
  obtain rfl:z=false:=by rw[←hz];simp;omega
  simp only[go_sem,j4,h1i]
 have h1i:¬(fs.length:Int)<1:=a6
 by_cases h2:64<fs.length
 ·have h2i:(64:Int)<(fs.length:Int):=a6
  obtain rfl:z=false:=by rw[←hz];simp;omega
  simp only[go_sem,j4,h1i,h2i]
 have h2i:¬(64:Int)<(fs.length:Int):=a6
 have hA:=oX ho vs a6
 unfold fH at hA
 simp only[go_sem,j4,h1i,h2i]
 refine cQ rfl (by simp only[go_sem];exact hA) ?_
 rintro _ rfl
 cases hv:vs.all aS
 ·obtain rfl:z=false:=by rw[←hz];simp[hv]
  exact UO
 simp only[go_sem,j4]
 refine ai (fun m st=>∃k:Nat,m+k=ars.length∧(ars.take k).all iu=true∧st.f 1=.one (.ptr 1 (st.gen 1) 0)∧st.obj 1=some [.d (.sl (vs.map fun s=>[.str s])),.d (.sl (ars.map arD)),.d (.sl (fs.map fnD))]∧st.f 24=.one (.d (.sl (ars.map arD)))∧st.f 25=iv .i64 ars.length∧st.f 26=iv .i64 k) ars.length ?_ ?_
 ·exact WZ
 clear g
 rintro m f g ob ⟨k,hk,hall,q1,o1,q24,q25,q26⟩
 simp only at q1 o1 q24 q25 q26
 have hw:=ae (k:=k) a6
 by_cases hlt:k<ars.length
 ·have hki:(k:Int)<(ars.length:Int):=a6
  have hk0:(0:Int)≤(k:Int):=a6
  obtain⟨⟨nm,sz⟩,he⟩:=getq hlt
  simp only[go_sem,q1,o1,q24,q25,q26,hki,hk0,he,arD]
  refine cQ rfl (by simp only[go_sem];exact lW ho nm) ?_
  rintro _ rfl
  cases hb:aS nm
  ·obtain rfl:z=false:=by rw[←hz,Src.all_false (p:=iu) he (by simp[iu,hb])];simp
   exact UO
  by_cases hs1:sz<1
  ·obtain rfl:z=false:=by rw[←hz,Src.all_false (p:=iu) he (by simp[iu,hb];omega)];simp
   simp only[go_sem,hs1]
  by_cases hs2:4096<sz
  ·obtain rfl:z=false:=by rw[←hz,Src.all_false (p:=iu) he (by simp[iu,hb];omega)];simp
   simp only[go_sem,hs1,hs2]
  simp only[go_sem,hs1,hs2,q26,hw]
  refine ac (m-1) a6 ⟨k+1,a6,Src.Rn hall he (by simp[iu,hb];omega),?_⟩
  simp only[go_sem,q1,o1,q24,q25]
 have hki:¬(k:Int)<(ars.length:Int):=a6
 obtain rfl:k=ars.length:=a6
 rw[l5 (j8 _)] at hall
 simp only[go_sem,q1,o1,q25,q26,hki,j4]
 refine ai (fun m st=>∃k:Nat,m+k=fs.length∧(fs.take k).all fv=true∧st.f 46=.one (.d (.sl (fs.map fnD)))∧st.f 47=iv .i64 fs.length∧st.f 48=iv .i64 k) fs.length ?_ ?_
 ·exact WZ
 clear q1 o1 q24 q25 q26 hlt hki hw hk
 rintro m f g ob ⟨k,hk,hallF,q46,q47,q48⟩
 simp only at q46 q47 q48
 have hw:=ae (k:=k) a6
 by_cases hlt:k<fs.length
 case neg=>
  have hki:¬(k:Int)<(fs.length:Int):=a6
  obtain rfl:k=fs.length:=a6
  rw[l5 (j8 _)] at hallF
  obtain rfl:z=true:=by rw[←hz,hall,hallF,hv,A6 (show 1≤fs.length∧fs.length≤64 by omega)];rfl
  simp only[go_sem,q47,q48,hki]
 have hki:(k:Int)<(fs.length:Int):=a6
 have hk0:(0:Int)≤(k:Int):=a6
 obtain⟨x,he⟩:=getq hlt
 have hszf:=nO (p:=⟨vs,ars,fs⟩) (l4 he)
 obtain⟨nm,ps,ls,w,body⟩:=x
 simp only at hszf
 have hAp:=oX ho ps a6
 have hAl:=oX ho ls a6
 have hB:=wm ho (bu body) body 1 (j8 _) a6 a6
 unfold fH at hAp hAl
 unfold fQ at hB
 have hfl:∀{y:Bool},fv ⟨nm,ps,ls,w,body⟩=y→y=false→z=false:=fun h1 h2=>by rw[←hz,Src.all_false (p:=fv) he (by rw[h1,h2])];simp
 simp only[go_sem,q46,q47,q48,hki,hk0,he,fnD]
 refine cQ rfl (by simp only[go_sem];exact lW ho nm) ?_
 rintro _ rfl
 cases hb:aS nm
 ·obtain rfl:=hfl rfl (by simp[fv,hb])
  exact UO
 by_cases hp6:6<ps.length
 ·have hp6i:(6:Int)<(ps.length:Int):=a6
  obtain rfl:=hfl rfl (by simp[fv,hb];omega)
  simp only[go_sem,j4,hp6i]
 have hp6i:¬(6:Int)<(ps.length:Int):=a6
 have hp6':ps.length≤6:=a6
 simp only[go_sem,j4,hp6i]
 refine cQ rfl (by simp only[go_sem];exact hAp) ?_
 rintro _ rfl
 cases hb2:ps.all aS
 ·obtain rfl:=hfl rfl (by simp only[fv,hb,hp6',hb2];simp)
  exact UO
 simp only[go_sem]
 refine cQ rfl (by simp only[go_sem];exact hAl) ?_
 rintro _ rfl
 cases hb3:ls.all aS
 ·obtain rfl:=hfl rfl (by simp only[fv,hb,hp6',hb2,hb3];simp)
  exact UO
 simp only[go_sem]
 refine cQ rfl Zc ?_
 rintro _ rfl
 cases hb4:bg 1 body
 ·obtain rfl:=hfl rfl (by simp only[fv,hb,hp6',hb2,hb3,hb4];simp)
  exact UO
 simp only[go_sem,q48,hw]
 refine ac (m-1) a6 ⟨k+1,a6,Src.Rn hallF he (by simp only[fv,hb,hp6',hb2,hb3,hb4];simp),?_⟩
 simp only[go_sem,q46,q47]
end
end Go.Proofs.YthnomjfdcidgbaaGreatDoor
namespace Go.Am
section
section
variable {S:Sp}{s:St}{B:(Exit→St→Prop)→St→Prop}{Q:Exit→St→Prop}
theorem QZ{b:Box B}{q:Box Q} (s₁:St) (h:S.vs s s₁) (J:Nat→St→Prop) (n:Nat) (h0:J 0 s₁)
  (hr:∀k f g ob,k≤n→J k ⟨f,g,ob⟩→B (kh (bx fun s'=>∃n' s₁,n'<n-k∧S.vs s' s₁∧∃k',n'+k'=n∧J k' s₁) q) ⟨f,g,ob⟩):pu S b q s:=
 ⟨fun m st=>∃k,m+k=n∧J k st,⟨n,s₁,h,0,rfl,h0⟩,fun m st ⟨k,h1,h2⟩=>by
  have:=hr k st.f st.gen st.obj a6 h2
  rwa [show n-k=m by omega] at this⟩
theorem my{b:Box B}{q:Box Q} (J:Nat→St→Prop) (n:Nat) (h0:J 0 s)
  (hr:∀k f g ob,k≤n→J k ⟨f,g,ob⟩→B (kh (bx fun s'=>∃n' s₁,n'<n-k∧S.vs s' s₁∧∃k',n'+k'=n∧J k' s₁) q) ⟨f,g,ob⟩) (hv:∀s,S.vs s s:=by exact fun s=>ab.refl s):pu S b q s:=QZ s (hv s) J n h0 hr
theorem fu{J:Nat→St→Prop}{n k:Nat} (h:k<n) (hJ:J (k+1) s) (hv:S.vs s s:=by exact ab.refl _):∃n' s₁,n'<n-k∧S.vs s s₁∧∃k',n'+k'=n∧J k' s₁:=
 ⟨n-(k+1),s,a6,hv,k+1,a6,hJ⟩
end
end
end Go.Am
namespace Go.Src
section
mutual
def inE:Ex→Prop
 |.mk _ _ _ _ kids=>kids.length≤1000000000000000000∧tL kids
def tL:List Ex→Prop
 |[]=>True
 |e::l=>inE e∧tL l
end
mutual
def inS:Stm→Prop
 |.mk _ _ e th el=>(e.length≤1000000000000000000∧tL e)∧(th.length≤1000000000000000000∧tM th)∧(el.length≤1000000000000000000∧tM el)
def tM:List Stm→Prop
 |[]=>True
 |e::l=>inS e∧tM l
end
theorem Fw:∀{l:List Ex}{k:Nat}{e:Ex},tL l→l[k]? = some e→inE e
 |_::_,0,_,h,he=>by cases he;exact h.1
 |_::_,_+1,_,h,he=>Fw h.2 (by simpa using he)
theorem Fx:∀{l:List Stm}{k:Nat}{e:Stm},tM l→l[k]? = some e→inS e
 |_::_,0,_,h,he=>by cases he;exact h.1
 |_::_,_+1,_,h,he=>Fx h.2 (by simpa using he)
end
end Go.Src
namespace Go.Proofs.YthnomjfdcidgbaaGreatDoor
section
open Go Go.Am Go.Asm
open Go.Src (Ex Stm szE bH szS bu inE tL inS tM)
theorem yq {α:Type}{l:List α}{k:Nat}{e:α} (h:l[k]? = some e):l.drop k=e::l.drop (k+1):=by
 obtain⟨h1,rfl⟩:=l0.1 h
 exact y9 h1
theorem getD_at {α:Type}{f:α→List D}{l:List α}{k:Nat}{e:α} (h:l[k]? = some e):(l.map f)[k]? = some (f e):=by rw[x7,h];rfl
end
section
attribute [local congr] Go.Am.ite_cc
open Go Go.Am Go.Asm
open Go.Src (bO ah takeN Ex Stm RQ isR am bS oW ngR nR kE)
theorem kG (ts:List Src.Tok) (q:Nat×Bool) (k:Nat) (hk:0<k) (hn:q.1≤1000000):mb 49 [iv .i64 k] ts q (bS ts k q) gv:=by
 intro B g ob hB hf ho
 obtain⟨n,w⟩:=q
 obtain⟨r,hr⟩:∃r,bS ts k (n,w)=r:=⟨_,rfl⟩
 rw[hr]
 refine dN.toR (hdM B [125] Tryz.func49 rfl [.cell 4 104] Xy hf fun b₀ β0 s0 w0=>?_)
 have hw:=ae (k:=n) (by simp only at hn;omega)
 have hws:IntKind.i64.wrap (((n+1:Nat):Int)-1)=(n:Int):=by simp only at hn;rw[wrap_i64 _ a6 a6];omega
 have hn0:(0:Int)≤(n:Int):=a6
 have n1:=nlo hB
 have n2:=nhi hB
 have hO:∀y,upd ob (B+4) y 125=some (rdW ts (n,w)):=fun y=>by simp only[upd];rw[if_neg a6];exact ho
 have hG:∀x,upd g (B+4) x 125=g 125:=fun x=>by simp only[upd];rw[if_neg a6]
 simp only[go_sem,n1,n2]
 by_cases hc:w=false∧bO ts n=k
 case neg=>
  refine da aa rfl (by simp only[go_sem,n1,n2];rw[←hG (nxC 105 (g (B+4)))];exact wJ hk (hO _) (x8 hc)) ?_
  rintro _ g1 ob1 ⟨rfl,rfl,rfl⟩
  obtain rfl:r=(oW,n,true):=by rw[←hr];exact if_neg hc
  unfold rdW at ho
  simp only[go_sem,ho,n1,n2]
  refine⟨_,ab.refl _,?_⟩
  simp only[go_sem,n1,n2]
  refine InF.retW (r:=(oW,n,true)) (enc:=gv) (rs:=[gv oW]) (InF.go .refl) rfl ?_ ?_ rfl
  ·simp only[go_sem,n1,n2,rdW]
  ·exact⟨_,_,rfl,.agg (xs:=gK oW) rfl (fun i c hc=>by
    match i,hc with
    |0,hc=>cases hc;exact⟨_,rfl,.d _⟩
    |1,hc=>cases hc;exact⟨_,rfl,.d _⟩
    |2,hc=>cases hc;exact⟨_,rfl,.d _⟩
    | 3,hc=>cases hc;exact⟨_,rfl,.d _⟩),rfl⟩
 refine da aa rfl (by simp only[go_sem,n1,n2];rw[←hG (nxC 105 (g (B+4)))];exact wJ hk (hO _) (A6 hc)) ?_
 rintro _ g1 ob1 ⟨rfl,rfl,rfl⟩
 obtain⟨rfl,hk1⟩:=hc
 obtain⟨t,ht⟩:∃t,ts[n]? = some t:=getq (Src.Je hk1 a6)
 have htg:=jD ht
 obtain rfl:r=(t,n+1,false):=by rw[←hr];unfold bS;rw[if_pos ⟨rfl,hk1⟩];simp only;rw[ht];rfl
 unfold rdW cF at ho
 simp only[go_sem,ho,hw,n1,n2]
 refine aM b9 ?_
 simp only[go_sem,n1,n2,hw,hws,hn0,htg]
 refine⟨_,ab.refl _,?_⟩
 simp only[go_sem,n1,n2]
 refine InF.retW (r:=(t,n+1,false)) (enc:=gv) (rs:=[gv t]) (InF.go .refl) rfl ?_ ?_ rfl
 ·simp only[go_sem,n1,n2,rdW,cF]
 ·exact VD
theorem wL (ts:List Src.Tok) (hl:ts.length≤100000) (q:Nat×Bool) (hq:q.1≤ts.length):mb 47 [] ts q (nR ts q) fH:=by
 intro B g ob hB hf ho
 obtain⟨p,hp⟩:∃p,nR ts q=p:=⟨_,rfl⟩
 rw[hp]
 unfold nR at hp
 refine dN.toR (hdM B [125] Tryz.func47 rfl [.tmp 2] Xy hf fun b₀ β0 s0 w0=>?_)
 have n1:=nlo hB
 have n2:=nhi hB
 have hin:InF B g ob g ob:=InF.refl
 have hf1:=hf
 simp only[go_sem,n1,n2]
 refine aQ aa rfl (kG ts q 1 a8 a6) Xx (B+17) a6 (fi hf1) XA ?_
 rcases ht:bS ts 1 q with⟨t,q1⟩
 have hm:=Src.nL (ts:=ts) (k:=1) a8 hq
 rw[ht] at hp hm
 simp only at hp hm
 unfold gv gK
 simp only[go_sem,n1,n2]
 refine ai (fun z st=>∃(j:Nat) (r:RQ (List Str)),z+r.2.1=ts.length∧r.1.length≤r.2.1+1∧4*Src.rem ts r.2+1≤j∧st.f 0=.one (.ptr 125 (g 125) 0)∧st.f 3=.one (.osl (B+7) (st.gen (B+7)) 1 0 r.1.length)∧st.obj (B+7)=some (bm r.1)∧st.obj 125=some (rdW ts r.2)∧InF B g ob st.gen st.obj∧(∀i,B+17≤i→st.obj i=none)∧ngR ts j r=p) (ts.length-q1.1) ?_ ?_
 ·refine⟨kE ts,([t.text],q1),by simp only;omega,a7,Src.rv a6 _,?_⟩
  simp only[go_sem,n1,n2,bm]
  exact⟨(InF.go hin),(fi hf1),hp⟩
 clear hf1 hin hp
 rintro z f g1 ob1 ⟨j,⟨acc,q2⟩,hz,hacc,hj,q0,q3,o7,o125,hin,hf1,hp⟩
 simp only at hz hacc hj q0 q3 o7 o125 hin hf1
 obtain⟨j,rfl⟩:∃i,j=i+1:=⟨j-1,a6⟩
 rw[ngR] at hp
 have hg:=hin.rd
 simp only[go_sem,q0]
 refine cC ts q2 [44] aa rfl XH XD a6 (fun h=>?_) (fun h=>?_)
 ·rw[if_pos (show isR ts Src.ja q2 from h)] at hp
  have hlt:=Src.eG h a7
  have hr1:=Src.jK a7 h
  simp only[go_sem,n1,n2,q0,q3]
  refine aQ aa rfl (kG ts (q2.1+1,false) 1 a8 XR) XC (B+17) a6 (fi hf1) Xw ?_
  have hm:=Src.nL (ts:=ts) (k:=1) (q:=(q2.1+1,false)) a8 hlt
  have hr2:=Src.sd (ts:=ts) (k:=1) a8 (q:=(q2.1+1,false))
  rcases ht:bS ts 1 (q2.1+1,false) with⟨t,q4⟩
  rw[ht] at hp hm hr2
  simp only at hp hm hr2
  have hcl:=kf acc
  unfold gv gK
  simp only[go_sem,n1,n2,q0,q3,o7,hcl,aD]
  refine⟨a6,⟨a8,a6⟩,?_⟩
  refine ac (ts.length-q4.1) a6 ⟨j,(acc++[t.text],q4),by simp only;omega,by simp only[j5];simp;omega,by simp only;omega,?_⟩
  exact W9
 ·rw[if_neg (show ¬isR ts Src.ja q2 from h)] at hp
  simp only[go_sem,n1,n2,q0,q3]
  refine⟨_,ab.refl _,?_⟩
  simp only[go_sem,n1,n2,q3]
  exact InF.retW (r:=(acc,q2)) (enc:=fH) (InF.go hin) hp.symm XD (xW a6 Xw (by simp only[go_sem,n1,n2,o7]) rfl) rfl
end
section
attribute [local congr] Go.Am.ite_cc
open Go Go.Am Go.Asm
open Go.Src (Ex)
theorem Aj (s:Str):aA Tryz.prog 208 [sv s] (· = iv .i64 ((Src.ew s).2.2:Nat)):=by
 refine hdR Tryz.func208 rfl [.tmp 2] fun g=>?_
 by_cases h0:s=[124,124]
 ·have hv:Src.ew s=(9,0,1):=by subst h0;rfl
  rw[hv]
  simp only[go_sem,l8 h0]
 by_cases h1:s=[38,38]
 ·have hv:Src.ew s=(8,0,2):=by subst h1;rfl
  rw[hv]
  simp only[go_sem,h0,l8 h1]
 by_cases h2:s=[61,61]
 ·have hv:Src.ew s=(6,15,3):=by subst h2;rfl
  rw[hv]
  simp only[go_sem,h0,h1,l8 h2]
 by_cases h3:s=[60]
 ·have hv:Src.ew s=(6,14,4):=by subst h3;rfl
  rw[hv]
  simp only[go_sem,h0,h1,h2,l8 h3]
 by_cases h4:s=[124]
 ·have hv:Src.ew s=(6,10,5):=by subst h4;rfl
  rw[hv]
  simp only[go_sem,h0,h1,h2,h3,l8 h4]
 by_cases h5:s=[94]
 ·have hv:Src.ew s=(6,11,5):=by subst h5;rfl
  rw[hv]
  simp only[go_sem,h0,h1,h2,h3,h4,l8 h5]
 by_cases h6:s=[38]
 ·have hv:Src.ew s=(6,9,6):=by subst h6;rfl
  rw[hv]
  simp only[go_sem,h0,h1,h2,h3,h4,h5,l8 h6]
 by_cases h7:s=[60,60]
 ·have hv:Src.ew s=(6,12,7):=by subst h7;rfl
  rw[hv]
  simp only[go_sem,h0,h1,h2,h3,h4,h5,h6,l8 h7]
 by_cases h8:s=[62,62]
 ·have hv:Src.ew s=(6,13,7):=by subst h8;rfl
  rw[hv]
  simp only[go_sem,h0,h1,h2,h3,h4,h5,h6,h7,l8 h8]
 by_cases h9:s=[43]
 ·have hv:Src.ew s=(6,4,8):=by subst h9;rfl
  rw[hv]
  simp only[go_sem,h0,h1,h2,h3,h4,h5,h6,h7,h8,l8 h9]
 by_cases h10:s=[45]
 ·have hv:Src.ew s=(6,5,8):=by subst h10;rfl
  rw[hv]
  simp only[go_sem,h0,h1,h2,h3,h4,h5,h6,h7,h8,h9,l8 h10]
 by_cases h11:s=[42]
 ·have hv:Src.ew s=(6,6,9):=by subst h11;rfl
  rw[hv]
  simp only[go_sem,h0,h1,h2,h3,h4,h5,h6,h7,h8,h9,h10,l8 h11]
 by_cases h12:s=[47]
 ·have hv:Src.ew s=(6,7,9):=by subst h12;rfl
  rw[hv]
  simp only[go_sem,h0,h1,h2,h3,h4,h5,h6,h7,h8,h9,h10,h11,l8 h12]
 by_cases h13:s=[37]
 ·have hv:Src.ew s=(6,8,9):=by subst h13;rfl
  rw[hv]
  simp only[go_sem,h0,h1,h2,h3,h4,h5,h6,h7,h8,h9,h10,h11,h12,l8 h13]
 have hv:Src.ew s=(0,0,0):=by unfold Src.ew;simp only[h0,h1,h2,h3,h4,h5,h6,h7,h8,h9,h10,h11,h12,h13,A4]
 rw[hv]
 simp only[go_sem,h0,h1,h2,h3,h4,h5,h6,h7,h8,h9,h10,h11,h12,h13]
theorem FE (e:Ex):∀x∈exD e,ge x=x:=by
 obtain⟨a,b,c,d,l⟩:=e
 intro x hx
 simp only[exD,y2,z7,D6] at hx
 rcases hx with rfl|rfl|rfl|rfl|rfl <;> rfl
theorem Rd {s:St}{id g n:Nat}{l:List Ex} (hg:s.gen id=g) (ho:s.obj id=some (exC l)) (hn:l.length=n):Frz s (.osl id g 5 0 n) (.sl (lq l)):=by
 rw[aH]
 have hfl:(l.map exD).flatten.map C.d=exC l:=by unfold exC;rw[List.flatMap_def,List.map_flatten,Q5];rfl
 refine .osl hg ho (by rw[wv];omega) (by simpa using hn) (fun e he=>by obtain⟨a,_,rfl⟩:=F9.1 he;exact bY a) (fun j=>.d ((l.map exD).flatten.getD j default)) (fun j x hx=>?_) (fun j x hx=>?_)
 ·rw[C2,←hfl,x7,hx]
  simp[List.getD,hx]
 ·have hm:=l4 hx
  rw[List.mem_flatten] at hm
  obtain⟨r,hr,hxr⟩:=hm
  obtain⟨e,_,rfl⟩:=F9.1 hr
  simp only[List.getD,hx,y7]
  have:=Frz.d (s:=s) x
  rwa [FE e x hxr] at this
theorem pX {s:St}{k op:Int}{id g:Nat}{a b:Ex}{z:AV} (hz:exV (.mk k op 0 [] [a,b])=z) (hg:s.gen id=g) (ho:s.obj id=some (exC [a,b])) :
  ∃r,kp s (.agg [.d (.int .i64 k),.d (.int .i64 op),.d (.int .u32 0),.d (.str []),.osl id g 5 0 2]) r∧r=z:=by
 subst hz
 refine⟨_,⟨[.int .i64 k,.int .i64 op,.int .u32 0,.str [],.sl (lq [a,b])],rfl,fun i c hc=>?_,rfl⟩,by simp[exV,exD]⟩
 match i,hc with
 |0,hc=>cases hc;exact⟨_,rfl,.d _⟩
 |1,hc=>cases hc;exact⟨_,rfl,.d _⟩
 |2,hc=>cases hc;exact⟨_,rfl,.d _⟩
 |3,hc=>cases hc;exact⟨_,rfl,.d _⟩
 |4,hc=>cases hc;exact⟨_,rfl,Rd hg ho rfl⟩
theorem MD (s:Str) (a b:Ex) (hs:(Src.ew s).2.2≠0):aA Tryz.prog 209 [sv s,exV a,exV b] (· = exV (.mk (Src.ew s).1 (Src.ew s).2.1 0 [] [a,b])):=by
 refine hdR Tryz.func209 rfl [.cell 6 210] fun g=>?_
 obtain⟨z,hz⟩:∃z,exV (.mk (Src.ew s).1 (Src.ew s).2.1 0 [] [a,b])=z:=⟨_,rfl⟩
 rw[hz]
 obtain⟨ak,ao,an,ax,akd⟩:=a
 obtain⟨bk,bo,bn,bx,bkd⟩:=b
 simp only[show ∀a b c d e,exV (.mk a b c d e)=.agg [.d (.int .i64 a),.d (.int .i64 b),.d (.int .u32 c),.d (.str d),.d (.sl (lq e))] from fun _ _ _ _ _=>by simp[exV,exD]]
 by_cases h0:s=[124,124]
 ·have hv:Src.ew s=(9,0,1):=by subst h0;rfl
  rw[hv] at hz
  simp only[go_sem,l8 h0]
  exact UT
 by_cases h1:s=[38,38]
 ·have hv:Src.ew s=(8,0,2):=by subst h1;rfl
  rw[hv] at hz
  simp only[go_sem,h0,l8 h1]
  exact UT
 by_cases h2:s=[61,61]
 ·have hv:Src.ew s=(6,15,3):=by subst h2;rfl
  rw[hv] at hz
  simp only[go_sem,h0,h1,l8 h2]
  exact UT
 by_cases h3:s=[60]
 ·have hv:Src.ew s=(6,14,4):=by subst h3;rfl
  rw[hv] at hz
  simp only[go_sem,h0,h1,h2,l8 h3]
  exact UT
 by_cases h4:s=[124]
 ·have hv:Src.ew s=(6,10,5):=by subst h4;rfl
  rw[hv] at hz
  simp only[go_sem,h0,h1,h2,h3,l8 h4]
  exact UT
 by_cases h5:s=[94]
 ·have hv:Src.ew s=(6,11,5):=by subst h5;rfl
  rw[hv] at hz
  simp only[go_sem,h0,h1,h2,h3,h4,l8 h5]
  exact UT
 by_cases h6:s=[38]
 ·have hv:Src.ew s=(6,9,6):=by subst h6;rfl
  rw[hv] at hz
  simp only[go_sem,h0,h1,h2,h3,h4,h5,l8 h6]
  exact UT
 by_cases h7:s=[60,60]
 ·have hv:Src.ew s=(6,12,7):=by subst h7;rfl
  rw[hv] at hz
  simp only[go_sem,h0,h1,h2,h3,h4,h5,h6,l8 h7]
  exact UT
 by_cases h8:s=[62,62]
 ·have hv:Src.ew s=(6,13,7):=by subst h8;rfl
  rw[hv] at hz
  simp only[go_sem,h0,h1,h2,h3,h4,h5,h6,h7,l8 h8]
  exact UT
 by_cases h9:s=[43]
 ·have hv:Src.ew s=(6,4,8):=by subst h9;rfl
  rw[hv] at hz
  simp only[go_sem,h0,h1,h2,h3,h4,h5,h6,h7,h8,l8 h9]
  exact UT
 by_cases h10:s=[45]
 ·have hv:Src.ew s=(6,5,8):=by subst h10;rfl
  rw[hv] at hz
  simp only[go_sem,h0,h1,h2,h3,h4,h5,h6,h7,h8,h9,l8 h10]
  exact UT
 by_cases h11:s=[42]
 ·have hv:Src.ew s=(6,6,9):=by subst h11;rfl
  rw[hv] at hz
  simp only[go_sem,h0,h1,h2,h3,h4,h5,h6,h7,h8,h9,h10,l8 h11]
  exact UT
 by_cases h12:s=[47]
 ·have hv:Src.ew s=(6,7,9):=by subst h12;rfl
  rw[hv] at hz
  simp only[go_sem,h0,h1,h2,h3,h4,h5,h6,h7,h8,h9,h10,h11,l8 h12]
  exact UT
 by_cases h13:s=[37]
 ·have hv:Src.ew s=(6,8,9):=by subst h13;rfl
  rw[hv] at hz
  simp only[go_sem,h0,h1,h2,h3,h4,h5,h6,h7,h8,h9,h10,h11,h12,l8 h13]
  exact UT
 exact absurd (by unfold Src.ew;simp only[h0,h1,h2,h3,h4,h5,h6,h7,h8,h9,h10,h11,h12,h13,A4]) hs
end
end Go.Proofs.YthnomjfdcidgbaaGreatDoor
namespace Go.Am
section
attribute [local congr] Go.Am.ite_cc
section
section steps
variable {S:Sp}{T:Nat→TI}{ops:Array Oper}{ids:List Nat}{z:Prop}{f:Nat→AV}{g:Nat→Nat}{ob:Nat→Option (List C)}{K:St→Prop}{k:Box K}{op:Op}{ty:TypeId}{ps:String}{af:Array Edge}{gd:Option (Nat×Bool)}{d:Nat}{rd hd:List Nat}{r:List Ent}
theorem Ak {v:AV} (hz:z) (hg:GdE ops ⟨⟨some d,op,ty,ps,af,gd⟩,rd,hd,[],false⟩ ⟨f,g,ob⟩) (h1:∀(fa:Nat→AV) (ga:Nat→Nat) (oa:Nat→Option (List C)) (K':St→Prop),K' ⟨upd (maskf rd f fa) d v,maskm ids hd g ga,maskm ids hd ob oa⟩→opA S T ⟨some d,op,ty,ps,af,gd⟩ ⟨maskf rd f fa,maskm ids hd g ga,maskm ids hd ob oa⟩ (bx K'))
  (h2:dn S T ops ids z r ⟨upd f d v,g,ob⟩ k):dn S T ops ids z (⟨⟨some d,op,ty,ps,af,gd⟩,rd,hd,[],false⟩::r) ⟨f,g,ob⟩ k:=by
 unfold dn
 exact⟨v,[],⟨rfl,fun fa ga oa K' hK=>h1 fa ga oa K' (hK fun _=>hz),hg⟩,h2⟩
end steps
end
end
end Go.Am
namespace Go.Proofs.YthnomjfdcidgbaaGreatDoor
section
attribute [local congr] Go.Am.ite_cc
open Go Go.Am Go.Asm
open Go.Src (bO ah takeN Ex Stm RQ isR am bS oW eR loR aR gR goR kE rem)
section
structure ExW (ts:List Src.Tok) (k:Nat):Prop where
 expr:∀(least:Nat) (q:Nat×Bool),1≤least→least≤10→q.1≤ts.length→13*rem ts q+12≤k+least→mb 132 [iv .i64 least] ts q (eR ts k least q) exV
 atom:∀(q:Nat×Bool),q.1≤ts.length→13*rem ts q+1≤k→mb 207 [] ts q (aR ts k q) exV
 args:∀(q:Nat×Bool),q.1≤ts.length→13*rem ts q+12≤k→mb 134 [] ts q (gR ts k q) eM
variable {ts:List Src.Tok}{q:Nat×Bool}
theorem ME{k least:Nat} (hl:ts.length≤100000) (ih:∀j,j≤k→ExW ts j) (hle:1≤least) (hle2:least≤10) (hq:q.1≤ts.length) (hk:13*rem ts q+12≤k+1+least):mb 132 [iv .i64 least] ts q (eR ts (k+1) least q) exV:=by
 intro B g ob hB hf ho
 obtain⟨p,hp⟩:∃p,eR ts (k+1) least q=p:=⟨_,rfl⟩
 rw[hp]
 rw[eR] at hp
 refine dN.toR (hdM B [125] Tryz.func132 rfl [.cell 4 210] Xy hf fun b₀ β0 s0 w0=>?_)
 have n1:=nlo hB
 have n2:=nhi hB
 have hin:InF B g ob g ob:=InF.refl
 have hf1:=hf
 have hws:=ae (k:=least) a6
 by_cases hl9:9<least
 ·have hli:(9:Int)<(least:Int):=a6
  rw[if_pos hl9] at hp
  simp only[go_sem,n1,n2,hli]
  refine aQ aa rfl ((ih k (j8 _)).atom q hq a6) Xx (B+44) a6 (fi hf1) XA ?_
  rcases he:aR ts k q with⟨⟨ek,eo,en,es,ekd⟩,q1⟩
  rw[he] at hp
  simp only[go_sem,n1,n2,exV,exD]
  refine⟨_,ab.refl _,?_⟩
  simp only[go_sem,n1,n2]
  exact InF.retW (r:=(.mk ek eo en es ekd,q1)) (enc:=exV) (InF.go hin) hp.symm Xw (mE (.d _)) X9
 have hli:¬(9:Int)<(least:Int):=a6
 rw[if_neg hl9] at hp
 simp only[go_sem,n1,n2,hli]
 refine aQ aa rfl ((ih k (j8 _)).expr (least+1) q a6 a6 hq a6) (by simp only[go_sem,n1,n2,hws];all_goals rfl) (B+44) a6 (fi hf1) XA ?_
 have hg1:=Src.lU (ts:=ts) k (least+1) q a6 a6 a6
 have hr1:=Src.jJ (ts:=ts) hg1 (Src.bI _ _ _).le
 have hm:=Src.nk (ts:=ts) k (least+1) q a6 hq
 clear hg1
 rcases he:eR ts k (least+1) q with⟨⟨ek,eo,en,es,ekd⟩,q1⟩
 rw[he] at hp hr1 hm
 simp only at hr1 hm
 simp only[go_sem,n1,n2,exV,exD]
 refine ai (fun z st=>∃(j:Nat) (r:RQ Ex),z+r.2.1=ts.length∧13*rem ts r.2+1≤j∧j≤k∧st.f 0=.one (.ptr 125 (g 125) 0)∧st.f 1=iv .i64 least∧st.f 4=.one (.ptr (B+4) (st.gen (B+4)) 0)∧st.f 5=.one (.ptr (B+5) (st.gen (B+5)) 0)∧
  (∃a b c d e,st.obj (B+4)=some [a,b,c,d,e])∧st.obj (B+5)=some ((exD r.1).map .d)∧st.obj 125=some (rdW ts r.2)∧InF B g ob st.gen st.obj∧(∀i,B+44≤i→st.obj i=none)∧loR ts j least r=p) (ts.length-q1.1) ?_ ?_
 ·refine⟨k,(.mk ek eo en es ekd,q1),by simp only;omega,by simp only;omega,j8 _,?_⟩
  exact W8
 clear hf1 hin hp he
 rintro z f g1 ob1 ⟨j,⟨left,⟨n,w⟩⟩,hz,hj,hjk,q0,q1,q4,q5,⟨a,b,c,d,e,o4⟩,o5,o125,hin,hf1,hp⟩
 simp only at hz hj q0 q1 q4 q5 o4 o5 o125 hin hf1
 obtain⟨j,rfl⟩:∃i,j=i+1:=⟨j-1,a6⟩
 rw[loR] at hp
 have hg:=hin.rd
 obtain⟨lk,lo,ln,ls,lkd⟩:=left
 simp only[exD,l6,v7] at o5
 have o125':=o125
 unfold rdW cF at o125
 cases w with
 |true=>
   rw[if_neg (fun x=>by cases x.1)] at hp
   simp only[go_sem,q0,q1,q4,q5,o4,o5,hg,o125,n1,n2]
   refine⟨_,ab.refl _,?_⟩
   simp only[go_sem,q4,n1,n2]
   exact InF.retW (r:=(.mk lk lo ln ls lkd,n,true)) (enc:=exV) (InF.go hin) hp.symm XP (mE (.d _)) X9
 |false=>
   simp only[go_sem,q0,q1,q4,q5,o4,o5,hg,o125,n1,n2]
   refine da aa rfl Zh ?_
   rintro _ _ _ ⟨rfl,rfl,rfl⟩
   simp only[go_sem,q0,q1]
   refine Pw rfl (by simp only[go_sem];exact Aj _) ?_
   rintro _ rfl
   by_cases hs:(Src.ew (ah ts n)).2.2=least
   case neg=>
    have hsi:¬((Src.ew (ah ts n)).2.2:Int)=(least:Int):=a6
    rw[if_neg (fun x=>hs x.2)] at hp
    simp only[go_sem,q0,q1,q4,q5,o4,o5,hg,hsi,n1,n2]
    refine⟨_,ab.refl _,?_⟩
    simp only[go_sem,q4,n1,n2]
    exact InF.retW (r:=(.mk lk lo ln ls lkd,n,false)) (enc:=exV) (InF.go hin) hp.symm XP (mE (.d _)) X9
   have hsi:((Src.ew (ah ts n)).2.2:Int)=(least:Int):=a6
   have hn:n<ts.length:=Src.rY hle a6
   have hw:=ae (k:=n) a6
   have hrm:rem ts (n+1,false)+1=rem ts (n,false):=by unfold Src.rem;rw[if_neg a7,if_neg a7];simp only;omega
   rw[if_pos ⟨rfl,hs⟩] at hp
   simp only[go_sem,q0,q1,q4,q5,o4,o5,hg,hsi,n1,n2]
   refine da aa rfl Zh ?_
   rintro _ _ _ ⟨rfl,rfl,rfl⟩
   have hcr:=(ih j a6).expr (least+1) (n+1,false) a6 a6 XR a6
   have hg3:=Src.lU (ts:=ts) j (least+1) (n+1,false) a6 a6 a6
   have hr3:=Src.jJ (ts:=ts) hg3 (Src.bI _ _ _).le
   have hm3:=Src.nk (ts:=ts) j (least+1) (n+1,false) a6 XR
   clear hg3
   rcases her:eR ts j (least+1) (n+1,false) with⟨⟨rk,ro,rn,rx,rkd⟩,q3⟩
   rw[her] at hr3 hm3 hcr
   simp only[her] at hp
   simp only at hr3 hm3
   have hjn:(Src.ew (ah ts n)).2.2≠0:=a6
   simp only[go_sem,q0,q1,q4,q5,o4,o5,hg,o125,hw,n1,n2]
   refine dw True aU mixed aa [125] [([6],[0],[],false),([5],[0],[],false),([0],[],[],false),([1],[],[],false),([39],[],[],false),([38,40],[],[0],false),([36,37,41],[],[],false),([5,42],[],[],true)] 1 rfl b9 rfl a7 ?_
   simp only[go_sem]
   (apply ar;(case hf=>rfl);(case hg=>first|exact l7|exact⟨_,rfl,by decide,rfl⟩);(case h1=>intro fa ga oa K' hK;simp only[go_sem,q5,o5,n1,n2] at hK ⊢;exact hK))
   (apply ar;(case hf=>rfl);(case hg=>first|exact l7|exact⟨_,rfl,by decide,rfl⟩);(case h1=>intro fa ga oa K' hK;simp only[go_sem,q5,o5,n1,n2] at hK ⊢;exact hK))
   iterate 2 (apply ar;(case hf=>rfl);(case hg=>first|exact l7|exact⟨_,rfl,by decide,rfl⟩);(case h1=>intro fa ga oa K' hK;simp only[go_sem,q0,q1] at hK ⊢;exact hK))
   (apply ar;(case hf=>rfl);(case hg=>first|exact l7|exact⟨_,rfl,by decide,rfl⟩);(case h1=>intro fa ga oa K' hK;simp only[go_sem,hws] at hK ⊢;exact hK))
   refine dy (v:=exV (.mk rk ro rn rx rkd)) (y:=some (rdW ts q3)) l7 a7 (fun fa ga oa K' hK=>?_) ?_
   ·simp only[go_sem,q0] at hK ⊢
    refine aQ (k:=bx K') aa rfl hcr (by simp only[go_sem,n1,n2,hg,hws];all_goals rfl) (B+44) a6 (fi hf1) YD ?_
    exact Vn
   refine Ak (v:=exV (.mk (Src.ew (ah ts n)).1 (Src.ew (ah ts n)).2.1 0 [] [.mk lk lo ln ls lkd,.mk rk ro rn rx rkd])) l7 l7 (fun fa ga oa K' hK=>?_) ?_
   ·simp only[go_sem,q0] at hK ⊢
    refine kn (k:=bx K') aa rfl (by simp only[go_sem];exact MD (ah ts n) (.mk lk lo ln ls lkd) (.mk rk ro rn rx rkd) hjn) XM ?_
    exact Wx
   refine dA rfl l7 ?_
   intro K' hK'
   simp only[go_sem,exV,exD,q5,o5,n1,n2]
   refine hK' _ ?_
   clear hK' K'
   simp only[go_sem,n1,n2,q5,o5,q0,q1,q4]
   refine ac (ts.length-q3.1) a6 ⟨j,(.mk (Src.ew (ah ts n)).1 (Src.ew (ah ts n)).2.1 0 [] [.mk lk lo ln ls lkd,.mk rk ro rn rx rkd],q3),by simp only;omega,by simp only;omega,a6,?_⟩
   simp only[go_sem,n1,n2,q0,q1,q4,q5,exD,lq]
   exact⟨⟨_,_,_,_,_,o4⟩,(InF.go hin),(fi hf1),hp⟩
theorem MF{k:Nat} (hl:ts.length≤100000) (ih:∀j,j≤k→ExW ts j) (hq:q.1≤ts.length) (hk:13*rem ts q+12≤k+1):mb 134 [] ts q (gR ts (k+1) q) eM:=by
 intro B g ob hB hf ho
 obtain⟨p,hp⟩:∃p,gR ts (k+1) q=p:=⟨_,rfl⟩
 rw[hp]
 rw[gR] at hp
 refine dN.toR (hdM B [125] Tryz.func134 rfl [.tmp 2] Xy hf fun b₀ β0 s0 w0=>?_)
 have n1:=nlo hB
 have n2:=nhi hB
 have hin:InF B g ob g ob:=InF.refl
 have hf1:=hf
 simp only[go_sem,n1,n2]
 refine cC ts q [41] aa rfl Xw XA a6 (fun h=>?_) (fun h=>?_)
 ·rw[if_pos (show isR ts Src.bB q from h)] at hp
  simp only[go_sem,n1,n2]
  refine⟨_,ab.refl _,?_⟩
  simp only[go_sem,n1,n2]
  exact InF.retW (r:=(([]:List Ex),q.1+1,false)) (enc:=eM) (rs:=[.one (.d (.sl []))]) (InF.go hin) hp.symm Xw ⟨_,_,rfl,.one .nil,rfl⟩ rfl
 rw[if_neg (show ¬isR ts Src.bB q from h)] at hp
 simp only[go_sem,n1,n2]
 have hce:=(ih k (j8 _)).expr 1 q a6 a6 hq a6
 have hg1:=Src.lU (ts:=ts) k 1 q a6 a6 a6
 have hr1:=Src.jJ (ts:=ts) hg1 (Src.bI _ _ _).le
 have hm:=Src.nk (ts:=ts) k 1 q a6 hq
 clear hg1
 rcases he:eR ts k 1 q with⟨e,q1⟩
 rw[he] at hr1 hm hce
 simp only[he] at hp
 simp only at hr1 hm
 refine aQ aa rfl hce Xx (B+21) a6 (fi hf1) XA ?_
 simp only[go_sem,n1,n2,exV,bY,j4]
 refine⟨⟨a8,a8⟩,?_⟩
 refine ai (fun z st=>∃(j:Nat) (r:RQ (List Ex)),z+r.2.1=ts.length∧r.1.length≤r.2.1+1∧13*rem ts r.2+1≤j∧j≤k∧st.f 0=.one (.ptr 125 (g 125) 0)∧st.f 3=.one (.osl (B+10) (st.gen (B+10)) 5 0 r.1.length)∧st.obj (B+10)=some (exC r.1)∧st.obj 125=some (rdW ts r.2)∧InF B g ob st.gen st.obj∧(∀i,B+21≤i→st.obj i=none)∧goR ts j r=p) (ts.length-q1.1) ?_ ?_
 ·refine⟨k,([e],q1),by simp only;omega,a7,by simp only;omega,j8 _,?_⟩
  simp only[go_sem,n1,n2]
  refine⟨by rw[l5 (by simp[bY]),jw],(InF.go hin),(fi hf1),hp⟩
 clear hf1 hin hp he
 rintro z f g1 ob1 ⟨j,⟨acc,q2⟩,hz,hacc,hj,hjk,q0,q3,o8,o125,hin,hf1,hp⟩
 simp only at hz hacc hj q0 q3 o8 o125 hin hf1
 obtain⟨j,rfl⟩:∃i,j=i+1:=⟨j-1,a6⟩
 rw[goR] at hp
 have hg:=hin.rd
 simp only[go_sem,q0]
 refine cC ts q2 [44] aa rfl XH XD a6 (fun h=>?_) (fun h=>?_)
 ·rw[if_pos (show isR ts Src.ja q2 from h)] at hp
  have hlt:=Src.eG h a7
  have hr1:=Src.jK a7 h
  have hce:=(ih j a6).expr 1 (q2.1+1,false) a6 a6 hlt a6
  have hg1:=Src.lU (ts:=ts) j 1 (q2.1+1,false) a6 a6 a6
  have hr2:=Src.jJ (ts:=ts) hg1 (Src.bI _ _ _).le
  have hm:=Src.nk (ts:=ts) j 1 (q2.1+1,false) a6 hlt
  clear hg1
  rcases he:eR ts j 1 (q2.1+1,false) with⟨e,q4⟩
  rw[he] at hr2 hm hce
  simp only[he] at hp
  simp only at hr2 hm
  simp only[go_sem,n1,n2,q0,q3]
  refine aQ aa rfl hce XC (B+21) a6 (fi hf1) Xw ?_
  have hcl:=wv acc
  simp only[go_sem,n1,n2,exV,bY,j4,q0,q3,o8,hcl,aD]
  refine⟨a6,⟨a8,a6⟩,?_⟩
  refine ac (ts.length-q4.1) a6 ⟨j,(acc++[e],q4),by simp only;omega,by simp only[j5];simp;omega,by simp only;omega,a6,?_⟩
  exact WW
 ·rw[if_neg (show ¬isR ts Src.ja q2 from h)] at hp
  simp only[go_sem,n1,n2,q0,q3]
  refine ba ts q2 [41] aa rfl XH XD a6 (B+21) a6 (fi hf1) ?_
  simp only[go_sem,n1,n2,q0,q3]
  refine⟨_,ab.refl _,?_⟩
  simp only[go_sem,n1,n2,q3]
  exact InF.retW (r:=(acc,am ts [41] q2)) (enc:=eM) (InF.go hin) hp.symm Xw (si a6 Xw (by simp only[go_sem,n1,n2,o8]) rfl) rfl
end
section
section
variable {b₀:Bs}{rd:Option Nat}{Φ:St→Am.Loc→List Deferred→World→Prop}
theorem Al (ts:List Src.Tok) (q:Nat×Bool) (x:Nat) (hx0:0<x) (hΦ:aY b₀ Φ) {o:Oper}{s:St}{K:St→Prop}{k:Box K}{args:Array Operand}{tys:Array TypeId} (ho:o.op=.call ⟨.value (.func 91),args,tys⟩)
  (hx:args.toList.map s.ev=[.one (.ptr 125 (s.gen 125) 0),iv .i64 x]) (hob:s.obj 125=some (rdW ts q)) {B0:Nat}{Ψ:fO}
  (h1:q.2=false∧bO ts q.1=x→K (St.put s o.dst (bv true))) (h2:¬(q.2=false∧bO ts q.1=x)→K (St.put s o.dst (bv false))):bh (spF Tryz.prog rd b₀ Φ B0 Ψ) o s k:=by
 by_cases hc:q.2=false∧bO ts q.1=x
 ·refine da hΦ ho (by rw[hx];exact wJ hx0 hob (A6 hc)) ?_
  rintro _ _ _ ⟨rfl,rfl,rfl⟩
  exact h1 hc
 ·refine da hΦ ho (by rw[hx];exact wJ hx0 hob (x8 hc)) ?_
  rintro _ _ _ ⟨rfl,rfl,rfl⟩
  exact h2 hc
end
variable {ts:List Src.Tok}
theorem MG{k:Nat}{q:Nat×Bool} (hl:ts.length≤100000) (ih:ExW ts k) (hq:q.1≤ts.length) (hk:13*rem ts q+1≤k+1):mb 207 [] ts q (aR ts (k+1) q) exV:=by
 intro B g ob hB hf ho
 obtain⟨p,hp⟩:∃p,aR ts (k+1) q=p:=⟨_,rfl⟩
 rw[hp]
 rw[aR] at hp
 refine dN.toR (hdM B [125] Tryz.func207 rfl [.cell 2 210] Xy hf fun b₀ β0 s0 w0=>?_)
 have n1:=nlo hB
 have n2:=nhi hB
 have hin:InF B g ob g ob:=InF.refl
 have hf1:=hf
 simp only[go_sem,n1,n2]
 refine Al ts q 2 a8 aa rfl Xw XA (fun h=>?_) (fun h=>?_)
 ·rw[if_pos h] at hp
  simp only[go_sem,n1,n2]
  refine aQ aa rfl (kG ts q 2 a8 a6) Xx (B+59) a6 (fi hf1) XA ?_
  rcases ht:bS ts 2 q with⟨t,q1⟩
  rw[ht] at hp
  unfold gv gK
  simp only[go_sem,n1,n2]
  refine⟨_,ab.refl _,?_⟩
  simp only[go_sem,n1,n2]
  exact InF.retW (r:=(.mk 1 0 t.num [] [],q1)) (enc:=exV) (InF.go hin) hp.symm Xw (mE .nil) Yt
 rw[if_neg h] at hp
 simp only[go_sem,n1,n2]
 refine cC ts q [103,101,116] aa rfl Xw XA a6 (fun h=>?_) (fun h=>?_)
 ·rw[if_pos h] at hp
  have hlt:=Src.eG h a7
  simp only[go_sem,n1,n2]
  refine ba ts (q.1+1,false) [40] aa rfl Xw Xw XR (B+59) a6 (fi hf1) ?_
  have hm:=Src.cY (ts:=ts) (s:=[40]) (q:=(q.1+1,false)) a7 hlt
  simp only[go_sem,n1,n2]
  refine ba ts (am ts [40] (q.1+1,false)) [41] aa rfl Xw Xw a6 (B+59) a6 (fi hf1) ?_
  simp only[go_sem,n1,n2]
  refine⟨_,ab.refl _,?_⟩
  simp only[go_sem,n1,n2]
  exact InF.retW (r:=(.mk 5 0 0 [] [],am ts [41] (am ts [40] (q.1+1,false)))) (enc:=exV) (InF.go hin) hp.symm Xw (mE .nil) Yt
 rw[if_neg h] at hp
 simp only[go_sem,n1,n2]
 refine cC ts q [33] aa rfl Xw XA a6 (fun h=>?_) (fun h=>?_)
 ·rw[if_pos h] at hp
  have hlt:=Src.eG h a7
  have hr:=Src.jK a7 h
  have hc:=ih.atom (q.1+1,false) hlt a6
  rcases he:aR ts k (q.1+1,false) with⟨e,q1⟩
  rw[he] at hc
  simp only[he] at hp
  simp only[go_sem,n1,n2]
  refine aQ aa rfl hc Xx (B+59) a6 (fi hf1) Xw ?_
  simp only[go_sem,n1,n2,exV,bY,j4]
  refine⟨_,ab.refl _,?_⟩
  simp only[go_sem,n1,n2]
  exact InF.retW (r:=(.mk 7 0 0 [] [e],q1)) (enc:=exV) (InF.go hin) hp.symm Xw (mE (iT (l:=[e]) a6 Xw Yj rfl)) X9
 rw[if_neg h] at hp
 simp only[go_sem,n1,n2]
 refine cC ts q [40] aa rfl Xw XA a6 (fun h=>?_) (fun h=>?_)
 ·rw[if_pos (show isR ts Src.bL q from h)] at hp
  have hlt:=Src.eG h a7
  have hr:=Src.jK a7 h
  have hc:=ih.expr 1 (q.1+1,false) a6 a6 hlt a6
  have hm:=Src.nk (ts:=ts) k 1 (q.1+1,false) a6 hlt
  rcases he:eR ts k 1 (q.1+1,false) with⟨⟨ek,eo,en,es,ekd⟩,q1⟩
  rw[he] at hc hm
  simp only[he] at hp
  simp only at hm
  simp only[go_sem,n1,n2]
  refine aQ aa rfl hc Xx (B+59) a6 (fi hf1) Xw ?_
  simp only[go_sem,n1,n2,exV,exD]
  refine ba ts q1 [41] aa rfl Xw Xw a6 (B+59) a6 (fi hf1) ?_
  simp only[go_sem,n1,n2]
  refine⟨_,ab.refl _,?_⟩
  simp only[go_sem,n1,n2]
  exact InF.retW (r:=(.mk ek eo en es ekd,am ts [41] q1)) (enc:=exV) (InF.go hin) hp.symm Xw (mE (.d _)) X9
 rw[if_neg (show ¬isR ts Src.bL q from h)] at hp
 simp only[go_sem,n1,n2]
 refine aQ aa rfl (kG ts q 1 a8 a6) Xx (B+59) a6 (fi hf1) XA ?_
 have hmt:=Src.nL (ts:=ts) (k:=1) a8 hq
 have hrt:=Src.sd (ts:=ts) (k:=1) a8 (q:=q)
 rcases ht:bS ts 1 q with⟨t,q0⟩
 rw[ht] at hp hmt hrt
 simp only at hp hmt hrt
 unfold gv gK
 simp only[go_sem,n1,n2]
 refine cC ts q0 [91] aa rfl Xw Xw a6 (fun h=>?_) (fun h=>?_)
 ·rw[if_pos h] at hp
  have hlt:=Src.eG h a7
  have hr:=Src.jK a7 h
  have hc:=ih.expr 1 (q0.1+1,false) a6 a6 hlt a6
  have hm:=Src.nk (ts:=ts) k 1 (q0.1+1,false) a6 hlt
  rcases he:eR ts k 1 (q0.1+1,false) with⟨⟨ek,eo,en,es,ekd⟩,q1⟩
  rw[he] at hc hm
  simp only[he] at hp
  simp only at hm
  simp only[go_sem,n1,n2]
  refine aQ aa rfl hc Xx (B+59) a6 (fi hf1) Xw ?_
  simp only[go_sem,n1,n2,exV,exD]
  refine ba ts q1 [93] aa rfl Xw Xw a6 (B+59) a6 (fi hf1) ?_
  simp only[go_sem,n1,n2]
  refine⟨_,ab.refl _,?_⟩
  simp only[go_sem,n1,n2]
  exact InF.retW (r:=(.mk 3 0 0 t.text [.mk ek eo en es ekd],am ts [93] q1)) (enc:=exV) (InF.go hin) hp.symm Xw (mE (iT (l:=[.mk ek eo en es ekd]) a6 Xw X7 rfl)) X9
 rw[if_neg h] at hp
 simp only[go_sem,n1,n2]
 refine cC ts q0 [40] aa rfl Xw Xw a6 (fun h=>?_) (fun h=>?_)
 ·rw[if_pos (show isR ts Src.bL q0 from h)] at hp
  have hlt:=Src.eG h a7
  have hr:=Src.jK a7 h
  have hc:=ih.args (q0.1+1,false) hlt a6
  rcases he:gR ts k (q0.1+1,false) with⟨l,q1⟩
  rw[he] at hc
  simp only[he] at hp
  simp only[go_sem,n1,n2]
  refine aQ aa rfl hc Xx (B+59) a6 (fi hf1) Xw ?_
  simp only[go_sem,n1,n2,eM]
  refine⟨_,ab.refl _,?_⟩
  simp only[go_sem,n1,n2]
  exact InF.retW (r:=(.mk 4 0 0 t.text l,q1)) (enc:=exV) (InF.go hin) hp.symm Xw (mE (.d _)) (by simp[pack,exV,exD,aH])
 rw[if_neg (show ¬isR ts Src.bL q0 from h)] at hp
 simp only[go_sem,n1,n2]
 refine⟨_,ab.refl _,?_⟩
 simp only[go_sem,n1,n2]
 exact InF.retW (r:=(.mk 2 0 0 t.text [],q0)) (enc:=exV) (InF.go hin) hp.symm Xw (mE .nil) Yt
theorem Re (hl:ts.length≤100000) (k:Nat):ExW ts k:=by
 induction k using Nat.strongRecOn with
 |ind k ih=>
 cases k with
 |zero=>exact⟨fun least q _ _ _ h=>absurd h a6,fun q _ h=>absurd h a6,fun q _ h=>absurd h a6⟩
 |succ k=>exact⟨fun least q h1 h2 h3 h4=>ME hl (fun j hj=>ih j a6) h1 h2 h3 h4,fun q h1 h2=>MG hl (ih k a6) h1 h2,fun q h1 h2=>MF hl (fun j hj=>ih j a6) h1 h2⟩
end
end
section
attribute [local congr] Go.Am.ite_cc
open Go Go.Am Go.Asm
open Go.Src (bO ah takeN Ex Stm RQ isR am bS oW eR loR aR gR goR kE rem cR stR bR ssR nmR nsR)
section
variable {ts:List Src.Tok}{q:Nat×Bool}{k:Nat}
theorem pY (hl:ts.length≤100000) (hq:q.1≤ts.length):mb 132 [iv .i64 1] ts q (eR ts (kE ts) 1 q) exV:=
 (Re hl (kE ts)).expr 1 q a6 a6 hq (by unfold Src.kE Src.rem;split <;> omega)
theorem IK (hl:ts.length≤100000) (hq:q.1≤ts.length):mb 134 [] ts q (gR ts (kE ts) q) eM:=
 (Re hl (kE ts)).args q hq (by unfold Src.kE Src.rem;split <;> omega)
theorem Ao (hl:ts.length≤100000) (hq:q.1≤ts.length):mb 131 [] ts q (cR ts q) eM:=by
 intro B g ob hB hf ho
 obtain⟨p,hp⟩:∃p,cR ts q=p:=⟨_,rfl⟩
 rw[hp]
 unfold cR at hp
 refine dN.toR (hdM B [125] Tryz.func131 rfl [.tmp 2] Xy hf fun b₀ β0 s0 w0=>?_)
 have n1:=nlo hB
 have n2:=nhi hB
 have hin:InF B g ob g ob:=InF.refl
 have hf1:=hf
 simp only[go_sem,n1,n2]
 refine ba ts q [40] aa rfl Xw XA a6 (B+12) a6 (fi hf1) ?_
 have hm:=Src.cY (ts:=ts) (s:=Src.bL) (q:=q) (by simp[Src.bL]) hq
 have hc:=pY hl hm.2
 have hm2:=Src.nk (ts:=ts) (kE ts) 1 _ a6 hm.2
 rcases he:eR ts (kE ts) 1 (am ts Src.bL q) with⟨⟨ek,eo,en,es,ekd⟩,q1⟩
 rw[he] at hc hm2
 simp only[he] at hp
 simp only at hm2
 simp only[go_sem,n1,n2]
 refine aQ aa rfl hc Xx (B+12) a6 (fi hf1) (by simp only[go_sem,n1,n2];rfl) ?_
 simp only[go_sem,n1,n2,exV,exD]
 refine ba ts q1 [41] aa rfl Xw Xw a6 (B+12) a6 (fi hf1) ?_
 simp only[go_sem,n1,n2]
 refine⟨_,ab.refl _,?_⟩
 simp only[go_sem,n1,n2]
 exact InF.retW (r:=([.mk ek eo en es ekd],am ts [41] q1)) (enc:=eM) (InF.go hin) hp.symm Xw (si a6 Xw X7 rfl) rfl
structure StW (ts:List Src.Tok) (k:Nat):Prop where
 stmt:∀(q:Nat×Bool),q.1≤ts.length→4*rem ts q+1≤k→mb 92 [] ts q (stR ts k q) smV
 body:∀(q:Nat×Bool),q.1≤ts.length→4*rem ts q+3≤k→mb 133 [] ts q (bR ts k q) fQ
theorem MH (hl:ts.length≤100000) (ih:StW ts k) (hq:q.1≤ts.length) (hk:4*rem ts q+1≤k+1):mb 92 [] ts q (stR ts (k+1) q) smV:=by
 intro B g ob hB hf ho
 obtain⟨p,hp⟩:∃p,stR ts (k+1) q=p:=⟨_,rfl⟩
 rw[hp]
 rw[stR] at hp
 refine dN.toR (hdM B [125] Tryz.func92 rfl [.cell 2 156] Xy hf fun b₀ β0 s0 w0=>?_)
 have n1:=nlo hB
 have n2:=nhi hB
 have hin:InF B g ob g ob:=InF.refl
 have hf1:=hf
 simp only[go_sem,n1,n2]
 refine cC ts q [112,117,116] aa rfl Xw XA a6 (fun h=>?_) (fun h=>?_)
 ·rw[if_pos h] at hp
  have hlt:=Src.eG h a7
  have hc:=Ao hl (q:=(q.1+1,false)) hlt
  have hm:=Src.Ed (ts:=ts) (q:=(q.1+1,false)) hlt
  rcases he:cR ts (q.1+1,false) with⟨l,q1⟩
  rw[he] at hc hm
  simp only[he] at hp
  simp only at hm
  simp only[go_sem,n1,n2]
  refine aQ aa rfl hc Xx (B+101) a6 (fi hf1) Xw ?_
  simp only[go_sem,n1,n2,eM]
  refine ba ts q1 [59] aa rfl Xw Xw a6 (B+101) a6 (fi hf1) ?_
  simp only[go_sem,n1,n2]
  refine⟨_,ab.refl _,?_⟩
  simp only[go_sem,n1,n2]
  exact InF.retW (r:=(.mk 3 [] l [] [],am ts [59] q1)) (enc:=smV) (InF.go hin) hp.symm Xw (iU (.d _) .nil .nil) YO
 rw[if_neg h] at hp
 simp only[go_sem,n1,n2]
 refine cC ts q [114,101,116,117,114,110] aa rfl Xw XA a6 (fun h=>?_) (fun h=>?_)
 ·rw[if_pos h] at hp
  have hlt:=Src.eG h a7
  simp only[go_sem,n1,n2]
  refine cC ts (q.1+1,false) [59] aa rfl Xw Xw XR (fun h=>?_) (fun h=>?_)
  ·rw[if_pos (show isR ts Src.cp (q.1+1,false) from h)] at hp
   simp only[go_sem,n1,n2]
   refine⟨_,ab.refl _,?_⟩
   simp only[go_sem,n1,n2]
   exact InF.retW (r:=(.mk 7 [] [] [] [],q.1+1+1,false)) (enc:=smV) (InF.go hin) hp.symm Xw (iU .nil .nil .nil) (by simp[pack,smV,smD,mF,lq])
  rw[if_neg (show ¬isR ts Src.cp (q.1+1,false) from h)] at hp
  have hc:=pY hl (q:=(q.1+1,false)) hlt
  have hm:=Src.nk (ts:=ts) (kE ts) 1 (q.1+1,false) a6 hlt
  rcases he:eR ts (kE ts) 1 (q.1+1,false) with⟨e,q1⟩
  rw[he] at hc hm
  simp only[he] at hp
  simp only at hm
  simp only[go_sem,n1,n2]
  refine aQ aa rfl hc Xx (B+101) a6 (fi hf1) Xw ?_
  simp only[go_sem,n1,n2,exV,bY,j4]
  refine ba ts q1 [59] aa rfl Xw Xw a6 (B+101) a6 (fi hf1) ?_
  simp only[go_sem,n1,n2]
  refine⟨_,ab.refl _,?_⟩
  simp only[go_sem,n1,n2]
  exact InF.retW (r:=(.mk 7 [] [e] [] [],am ts [59] q1)) (enc:=smV) (InF.go hin) hp.symm Xw (iU (iT (l:=[e]) a6 Xw Yj rfl) .nil .nil) Ys
 rw[if_neg h] at hp
 simp only[go_sem,n1,n2]
 refine cC ts q [105,102] aa rfl Xw XA a6 (fun h=>?_) (fun h=>?_)
 ·rw[if_pos h] at hp
  have hlt:=Src.eG h a7
  have hr0:=Src.jK a7 h
  have hc:=Ao hl (q:=(q.1+1,false)) hlt
  have hm:=Src.Ed (ts:=ts) (q:=(q.1+1,false)) hlt
  have hr1:=Src.jJ (ts:=ts) (Src.pN (ts:=ts) (q.1+1,false)) Src.DZ
  rcases he:cR ts (q.1+1,false) with⟨l,q1⟩
  rw[he] at hc hm hr1
  simp only[he] at hp
  simp only at hm hr1
  have hcb:=ih.body q1 hm.2 a6
  have hmb:=Src.Ee (ts:=ts) k q1 hm.2
  have hrb:=Src.jJ (ts:=ts) (Src.vW (ts:=ts) k q1 a6) (Src.lB _ _)
  rcases he2:bR ts k q1 with⟨th,q2⟩
  rw[he2] at hcb hmb hrb
  simp only[he2] at hp
  simp only at hmb hrb
  simp only[go_sem,n1,n2]
  refine aQ aa rfl hc Xx (B+101) a6 (fi hf1) Xw ?_
  simp only[go_sem,n1,n2,eM]
  refine aQ aa rfl hcb Xx (B+101) a6 (fi hf1) Xw ?_
  simp only[go_sem,n1,n2,fQ]
  refine cC ts q2 [101,108,115,101] aa rfl Xw Xw a6 (fun h=>?_) (fun h=>?_)
  ·rw[if_pos h] at hp
   have hlt2:=Src.eG h a7
   have hr3:=Src.jK a7 h
   have hce:=ih.body (q2.1+1,false) hlt2 a6
   rcases he3:bR ts k (q2.1+1,false) with⟨el,q3⟩
   rw[he3] at hce
   simp only[he3] at hp
   simp only[go_sem,n1,n2]
   refine aQ aa rfl hce Xx (B+101) a6 (fi hf1) Xw ?_
   simp only[go_sem,n1,n2,fQ]
   refine⟨_,ab.refl _,?_⟩
   simp only[go_sem,n1,n2]
   exact InF.retW (r:=(.mk 4 [] l th el,q3)) (enc:=smV) (InF.go hin) hp.symm Xw (iU (.d _) (.d _) (.d _)) Yn
  rw[if_neg h] at hp
  simp only[go_sem,n1,n2]
  refine⟨_,ab.refl _,?_⟩
  simp only[go_sem,n1,n2]
  exact InF.retW (r:=(.mk 4 [] l th [],q2)) (enc:=smV) (InF.go hin) hp.symm Xw (iU (.d _) (.d _) .nil) Yn
 rw[if_neg h] at hp
 simp only[go_sem,n1,n2]
 refine cC ts q [119,104,105,108,101] aa rfl Xw XA a6 (fun h=>?_) (fun h=>?_)
 ·rw[if_pos h] at hp
  have hlt:=Src.eG h a7
  have hr0:=Src.jK a7 h
  have hc:=Ao hl (q:=(q.1+1,false)) hlt
  have hm:=Src.Ed (ts:=ts) (q:=(q.1+1,false)) hlt
  have hr1:=Src.jJ (ts:=ts) (Src.pN (ts:=ts) (q.1+1,false)) Src.DZ
  rcases he:cR ts (q.1+1,false) with⟨l,q1⟩
  rw[he] at hc hm hr1
  simp only[he] at hp
  simp only at hm hr1
  have hcb:=ih.body q1 hm.2 a6
  rcases he2:bR ts k q1 with⟨th,q2⟩
  rw[he2] at hcb
  simp only[he2] at hp
  simp only[go_sem,n1,n2]
  refine aQ aa rfl hc Xx (B+101) a6 (fi hf1) Xw ?_
  simp only[go_sem,n1,n2,eM]
  refine aQ aa rfl hcb Xx (B+101) a6 (fi hf1) Xw ?_
  simp only[go_sem,n1,n2,fQ]
  refine⟨_,ab.refl _,?_⟩
  simp only[go_sem,n1,n2]
  exact InF.retW (r:=(.mk 5 [] l th [],q2)) (enc:=smV) (InF.go hin) hp.symm Xw (iU (.d _) (.d _) .nil) Yn
 rw[if_neg h] at hp
 simp only[go_sem,n1,n2]
 refine aQ aa rfl (kG ts q 1 a8 a6) Xx (B+101) a6 (fi hf1) XA ?_
 have hmt:=Src.nL (ts:=ts) (k:=1) a8 hq
 unfold nmR nsR at hp
 rcases ht:bS ts 1 q with⟨t,q0⟩
 rw[ht] at hmt
 simp only[ht] at hp
 simp only at hmt
 unfold gv gK
 simp only[go_sem,n1,n2]
 refine cC ts q0 [40] aa rfl Xw Xw a6 (fun h=>?_) (fun h=>?_)
 ·rw[if_pos (show isR ts Src.bL q0 from h)] at hp
  have hlt:=Src.eG h a7
  have hc:=IK hl (q:=(q0.1+1,false)) hlt
  have hm:=Src.JT (ts:=ts) (kE ts) (q0.1+1,false) hlt
  rcases he:gR ts (kE ts) (q0.1+1,false) with⟨l,q1⟩
  rw[he] at hc hm
  simp only[he] at hp
  simp only at hm
  simp only[go_sem,n1,n2]
  refine aQ aa rfl hc Xx (B+101) a6 (fi hf1) Xw ?_
  simp only[go_sem,n1,n2,eM]
  refine ba ts q1 [59] aa rfl Xw Xw a6 (B+101) a6 (fi hf1) ?_
  simp only[go_sem,n1,n2]
  refine⟨_,ab.refl _,?_⟩
  simp only[go_sem,n1,n2]
  exact InF.retW (r:=(.mk 6 t.text l [] [],am ts [59] q1)) (enc:=smV) (InF.go hin) hp.symm Xw (iU (.d _) .nil .nil) YO
 rw[if_neg (show ¬isR ts Src.bL q0 from h)] at hp
 simp only[go_sem,n1,n2]
 refine cC ts q0 [91] aa rfl Xw Xw a6 (fun h=>?_) (fun h=>?_)
 ·rw[if_pos h] at hp
  have hlt:=Src.eG h a7
  have hc:=pY hl (q:=(q0.1+1,false)) hlt
  have hm:=Src.nk (ts:=ts) (kE ts) 1 (q0.1+1,false) a6 hlt
  rcases he:eR ts (kE ts) 1 (q0.1+1,false) with⟨⟨ek,eo,en,es,ekd⟩,q1⟩
  rw[he] at hc hm
  simp only[he] at hp
  simp only at hm
  simp only[go_sem,n1,n2]
  refine dw True aU mixed aa [125,B+84,B+85] [([7],[0,1,2],[],false),([80],[0,1],[],false),([0],[],[],false),([82],[],[0],false),([83],[],[1],false),([81,84],[],[2],false),([7],[0,1,2],[],false),([86,85],[],[],true)] 3 rfl b9 rfl Xy ?_
  simp only[go_sem]
  (apply ar;(case hf=>rfl);(case hg=>first|exact l7|exact⟨_,rfl,by decide,rfl⟩);(case h1=>intro fa ga oa K' hK;simp only[go_sem,n1,n2] at hK ⊢;exact hK))
  (apply ar;(case hf=>rfl);(case hg=>first|exact l7|exact⟨_,rfl,by decide,rfl⟩);(case h1=>intro fa ga oa K' hK;simp only[go_sem,n1,n2] at hK ⊢;exact hK))
  (apply ar;(case hf=>rfl);(case hg=>first|exact l7|exact⟨_,rfl,by decide,rfl⟩);(case h1=>intro fa ga oa K' hK;simp only[go_sem,n1,n2] at hK ⊢;exact hK))
  refine dy (v:=exV (.mk ek eo en es ekd)) (y:=some (rdW ts q1)) l7 a7 (fun fa ga oa K' hK=>?_) ?_
  ·simp only[go_sem,n1,n2] at hK ⊢
   refine aQ (k:=bx K') aa rfl hc Xx (B+101) a6 (fi hf1) Xw ?_
   exact WD
  (apply cG;(case hf=>rfl);(case hg=>first|exact l7|exact⟨_,rfl,by decide,rfl⟩);(case h1=>intro fa ga oa K' hK;simp only[go_sem,exV,exD,n1,n2] at hK ⊢;exact hK))
  (apply cG;(case hf=>rfl);(case hg=>exact l7);(case h1=>intro fa ga oa K' hK;simp only[go_sem,n1,n2] at hK ⊢;exact⟨⟨a8,a8⟩,hK⟩))
  (apply ar;(case hf=>rfl);(case hg=>first|exact l7|exact⟨_,rfl,by decide,rfl⟩);(case h1=>intro fa ga oa K' hK;simp only[go_sem,n1,n2] at hK ⊢;exact hK))
  refine dA rfl l7 ?_
  intro K' hK'
  simp only[go_sem,n1,n2]
  refine hK' _ ?_
  clear hK' K'
  simp only[go_sem,n1,n2]
  refine ba ts q1 [93] aa rfl Xw Xw a6 (B+101) a6 (fi hf1) ?_
  have hm2:=Src.cY (ts:=ts) (s:=[93]) (q:=q1) a7 hm.2
  simp only[go_sem,n1,n2]
  refine ba ts (am ts [93] q1) [61] aa rfl Xw Xw a6 (B+101) a6 (fi hf1) ?_
  have hm3:=Src.cY (ts:=ts) (s:=[61]) (q:=am ts [93] q1) a7 hm2.2
  have hc2:=pY hl (q:=am ts [61] (am ts [93] q1)) hm3.2
  have hm4:=Src.nk (ts:=ts) (kE ts) 1 (am ts [61] (am ts [93] q1)) a6 hm3.2
  rcases he2:eR ts (kE ts) 1 (am ts [61] (am ts [93] q1)) with⟨⟨fk,fo,fn,fs,fkd⟩,q2⟩
  rw[he2] at hc2 hm4
  simp only[he2] at hp
  simp only at hm4
  simp only[go_sem,n1,n2]
  refine dw True aU mixed aa [125,B+95,B+85] [([7],[0,1,2],[],false),([91],[0,1],[],false),([0],[],[],false),([93],[],[0],false),([94],[],[1],false),([92,95],[],[2],false),([7],[0,1,2],[],false),([97,96],[],[],true)] 3 rfl b9 rfl Xy ?_
  simp only[go_sem]
  (apply ar;(case hf=>rfl);(case hg=>first|exact l7|exact⟨_,rfl,by decide,rfl⟩);(case h1=>intro fa ga oa K' hK;simp only[go_sem,n1,n2] at hK ⊢;exact hK))
  (apply ar;(case hf=>rfl);(case hg=>first|exact l7|exact⟨_,rfl,by decide,rfl⟩);(case h1=>intro fa ga oa K' hK;simp only[go_sem,n1,n2] at hK ⊢;exact hK))
  (apply ar;(case hf=>rfl);(case hg=>first|exact l7|exact⟨_,rfl,by decide,rfl⟩);(case h1=>intro fa ga oa K' hK;simp only[go_sem,n1,n2] at hK ⊢;exact hK))
  refine dy (v:=exV (.mk fk fo fn fs fkd)) (y:=some (rdW ts q2)) l7 a7 (fun fa ga oa K' hK=>?_) ?_
  ·exact VV
  (apply cG;(case hf=>rfl);(case hg=>first|exact l7|exact⟨_,rfl,by decide,rfl⟩);(case h1=>intro fa ga oa K' hK;simp only[go_sem,exV,exD,n1,n2] at hK ⊢;exact hK))
  (apply cG;(case hf=>rfl);(case hg=>exact l7);(case h1=>intro fa ga oa K' hK;simp only[go_sem,n1,n2] at hK ⊢;exact⟨⟨a8,a8⟩,hK⟩))
  (apply ar;(case hf=>rfl);(case hg=>first|exact l7|exact⟨_,rfl,by decide,rfl⟩);(case h1=>intro fa ga oa K' hK;simp only[go_sem,n1,n2] at hK ⊢;exact hK))
  refine dA rfl l7 ?_
  intro K' hK'
  simp only[go_sem,n1,n2]
  refine hK' _ ?_
  clear hK' K'
  simp only[go_sem,n1,n2]
  refine ba ts q2 [59] aa rfl Xw Xw a6 (B+101) a6 (fi hf1) ?_
  simp only[go_sem,n1,n2]
  refine⟨_,ab.refl _,?_⟩
  simp only[go_sem,n1,n2]
  exact InF.retW (r:=(.mk 2 t.text [.mk ek eo en es ekd,.mk fk fo fn fs fkd] [] [],am ts [59] q2)) (enc:=smV) (InF.go hin) hp.symm Xw (iU (iT (l:=[.mk ek eo en es ekd,.mk fk fo fn fs fkd]) a6 Xw X7 rfl) .nil .nil) Ys
 rw[if_neg h] at hp
 simp only[go_sem,n1,n2]
 refine ba ts q0 [61] aa rfl Xw Xw a6 (B+101) a6 (fi hf1) ?_
 have hm3:=Src.cY (ts:=ts) (s:=[61]) (q:=q0) a7 hmt.2
 have hc2:=pY hl (q:=am ts [61] q0) hm3.2
 have hm4:=Src.nk (ts:=ts) (kE ts) 1 (am ts [61] q0) a6 hm3.2
 rcases he2:eR ts (kE ts) 1 (am ts [61] q0) with⟨⟨fk,fo,fn,fs,fkd⟩,q2⟩
 rw[he2] at hc2 hm4
 simp only[he2] at hp
 simp only at hm4
 simp only[go_sem,n1,n2]
 refine dw True aU mixed aa [125,B+66,B+67] [([7],[0,1,2],[],false),([62],[0,1],[],false),([0],[],[],false),([64],[],[0],false),([65],[],[1],false),([63,66],[],[2],false),([7],[0,1,2],[],false),([68,67],[],[],true)] 3 rfl b9 rfl Xy ?_
 simp only[go_sem]
 (apply ar;(case hf=>rfl);(case hg=>first|exact l7|exact⟨_,rfl,by decide,rfl⟩);(case h1=>intro fa ga oa K' hK;simp only[go_sem,n1,n2] at hK ⊢;exact hK))
 (apply ar;(case hf=>rfl);(case hg=>first|exact l7|exact⟨_,rfl,by decide,rfl⟩);(case h1=>intro fa ga oa K' hK;simp only[go_sem,n1,n2] at hK ⊢;exact hK))
 (apply ar;(case hf=>rfl);(case hg=>first|exact l7|exact⟨_,rfl,by decide,rfl⟩);(case h1=>intro fa ga oa K' hK;simp only[go_sem,n1,n2] at hK ⊢;exact hK))
 refine dy (v:=exV (.mk fk fo fn fs fkd)) (y:=some (rdW ts q2)) l7 a7 (fun fa ga oa K' hK=>?_) ?_
 ·exact VV
 (apply cG;(case hf=>rfl);(case hg=>first|exact l7|exact⟨_,rfl,by decide,rfl⟩);(case h1=>intro fa ga oa K' hK;simp only[go_sem,exV,exD,n1,n2] at hK ⊢;exact hK))
 (apply cG;(case hf=>rfl);(case hg=>exact l7);(case h1=>intro fa ga oa K' hK;simp only[go_sem,n1,n2] at hK ⊢;exact⟨⟨a8,a8⟩,hK⟩))
 (apply ar;(case hf=>rfl);(case hg=>first|exact l7|exact⟨_,rfl,by decide,rfl⟩);(case h1=>intro fa ga oa K' hK;simp only[go_sem,n1,n2] at hK ⊢;exact hK))
 refine dA rfl l7 ?_
 intro K' hK'
 simp only[go_sem,n1,n2]
 refine hK' _ ?_
 clear hK' K'
 simp only[go_sem,n1,n2]
 refine ba ts q2 [59] aa rfl Xw Xw a6 (B+101) a6 (fi hf1) ?_
 simp only[go_sem,n1,n2]
 refine⟨_,ab.refl _,?_⟩
 simp only[go_sem,n1,n2]
 exact InF.retW (r:=(.mk 1 t.text [.mk fk fo fn fs fkd] [] [],am ts [59] q2)) (enc:=smV) (InF.go hin) hp.symm Xw (iU (iT (l:=[.mk fk fo fn fs fkd]) a6 Xw X7 rfl) .nil .nil) Ys
def mea (ts:List Src.Tok) (q:Nat×Bool):Nat:=if q.2=true then 0 else ts.length-q.1+1
theorem Ap {α:Type}{p:Src.PR α}{r:RQ α} (hw:q.2=false) (hn:q.1≤ts.length) (h:Src.Goes q p r) (hp:p.Fwd q.1) (hm:r.2.1≤ts.length):mea ts r.2<mea ts q∧(r.2.2=false→q.1+1≤r.2.1):=by
 unfold mea
 rw[if_neg (c:=q.2=true) (by simp[hw])]
 by_cases hr:r.2.2=true
 ·rw[if_pos hr];exact⟨a6,fun h=>by rw[hr] at h;cases h⟩
 ·have:=hp _ _ (h.ok (by simpa using hr)).2
  rw[if_neg hr]
  exact⟨a6,fun _=>this⟩
theorem yx (hw:q.2=false) (hk:4*rem ts q+2≤k+1):4*rem ts (stR ts k q).2+2≤k∨(stR ts k q).2.2=true∧1≤k:=by
 have hg:=Src.Ea (ts:=ts) k q a6
 by_cases hr:(stR ts k q).2.2=true
 ·exact .inr ⟨hr,a6⟩
 refine .inl ?_
 have h2:=(hg.ok (by simpa using hr)).2
 have h3:=Src.nW _ _ _ _ h2
 have h4:=Src.ub _ _ _ _ h2
 unfold Src.rem at hk ⊢
 rw[if_neg (by simp[hw])] at hk
 rw[if_neg hr]
 omega
theorem MJ (hl:ts.length≤100000) (ih:∀j,j≤k→StW ts j) (hq:q.1≤ts.length) (hk:4*rem ts q+3≤k+1):mb 133 [] ts q (bR ts (k+1) q) fQ:=by
 intro B g ob hB hf ho
 obtain⟨p,hp⟩:∃p,bR ts (k+1) q=p:=⟨_,rfl⟩
 rw[hp]
 rw[bR] at hp
 refine dN.toR (hdM B [125] Tryz.func133 rfl [.tmp 2] Xy hf fun b₀ β0 s0 w0=>?_)
 have n1:=nlo hB
 have n2:=nhi hB
 have hin:InF B g ob g ob:=InF.refl
 have hf1:=hf
 simp only[go_sem,n1,n2]
 refine ba ts q [123] aa rfl Xw XA a6 (B+22) a6 (fi hf1) ?_
 have hm:=Src.cY (ts:=ts) (s:=[123]) (q:=q) a7 hq
 have hr:=Src.lm (ts:=ts) (s:=[123]) (q:=q)
 simp only[go_sem,n1,n2]
 refine iR _ (vG (t:=3) (id:=B+20) (sz:=5) Xz) (fun z st=>∃(j:Nat) (r:RQ (List Stm)),z=mea ts r.2∧r.2.1≤ts.length∧r.1.length≤r.2.1+1∧(r.2.2=false→r.1.length≤r.2.1)∧(4*rem ts r.2+2≤j∨r.2.2=true∧1≤j)∧j≤k∧st.f 0=.one (.ptr 125 (g 125) 0)∧st.f 3=.one (.osl (B+20) (st.gen (B+20)) 5 0 r.1.length)∧st.obj (B+20)=some (smC r.1)∧st.obj 125=some (rdW ts r.2)∧InF B g ob st.gen st.obj∧(∀i,B+22≤i→st.obj i=none)∧ssR ts j r=p) (mea ts (am ts [123] q)) ?_ ?_
 ·refine⟨k,([],am ts [123] q),rfl,hm.2,a7,fun _=>by simp,.inl XR,j8 _,?_⟩
  simp only[St.grab]
  simp only[go_sem,n1,n2]
  exact⟨rfl,(InF.go hin),(fi hf1),hp⟩
 clear hf1 hin hp
 rintro z f g1 ob1 ⟨j,⟨acc,⟨n,w⟩⟩,hz,hn,hacc,hacc2,hj,hjk,q0,q3,o20,o125,hin,hf1,hp⟩
 simp only at hz hn hacc hacc2 hj q0 q3 o20 o125 hin hf1
 obtain⟨j,rfl⟩:∃i,j=i+1:=⟨j-1,a6⟩
 rw[ssR] at hp
 have hg:=hin.rd
 have o125':=o125
 unfold rdW cF at o125
 cases w with
 |true=>
   rw[if_pos rfl] at hp
   simp only[go_sem,q0,q3,hg,o125,n1,n2]
   refine⟨_,ab.refl _,?_⟩
   simp only[go_sem,q3,n1,n2]
   exact InF.retW (r:=(acc,n,true)) (enc:=fQ) (InF.go hin) hp.symm XP (wB a6 Xw (by simp only[go_sem,n1,n2,o20]) rfl) rfl
 |false=>
   rw[if_neg (c:=((acc,n,false):RQ (List Stm)).2.2=true) a7] at hp
   have hj:=hj.resolve_right fun x=>by cases x.1
   simp only[go_sem,q0,q3,hg,o125,n1,n2]
   refine cC ts (n,false) [125] aa rfl XH XP XR (fun h=>?_) (fun h=>?_)
   ·rw[if_pos (show isR ts [125] ((acc,n,false):RQ (List Stm)).2 from h)] at hp
    simp only[go_sem,n1,n2,q0,q3]
    refine⟨_,ab.refl _,?_⟩
    simp only[go_sem,n1,n2,q3]
    exact InF.retW (r:=(acc,n+1,false)) (enc:=fQ) (InF.go hin) hp.symm Xw (wB a6 Xw (by simp only[go_sem,n1,n2,o20]) rfl) rfl
   rw[if_neg (show ¬isR ts [125] ((acc,n,false):RQ (List Stm)).2 from h)] at hp
   have hcl:=wy acc
   have hst:=(ih j a6).stmt (n,false) hn a6
   have hms:=Src.Lv (ts:=ts) j (n,false) hn
   have hgo:=Ap (ts:=ts) rfl hn (Src.Ea (ts:=ts) j (n,false) a6) (Src.nW _ _) hms.2
   have hrs:=yx (ts:=ts) (k:=j) (q:=(n,false)) rfl hj
   have hacc2:=hacc2 rfl
   rcases he:stR ts j (n,false) with⟨e,q2⟩
   rw[he] at hst hms hgo hrs
   simp only[he] at hp
   simp only at hms hgo hrs
   simp only[go_sem,n1,n2,q0,q3]
   refine aQ aa rfl hst XC (B+22) a6 (fi hf1) XP ?_
   simp only[go_sem,n1,n2,smV,fM,j4,q0,q3,o20,hcl,aD]
   refine⟨a6,⟨a8,a6⟩,?_⟩
   refine ac (mea ts q2) (by rw[hz];exact hgo.1) ⟨j,(acc++[e],q2),rfl,hms.2,by simp only[j5];simp;omega,fun hw=>by have:=hgo.2 hw;simp only[j5];simp;omega,hrs,a6,?_⟩
   simp only[go_sem,n1,n2,q0,q3,j5]
   refine⟨?_,(InF.go hin),(fi hf1),hp⟩
   rw[l5 a6,wA,wz,l5 (by simp[fM])]
theorem TF (hl:ts.length≤100000) (k:Nat):StW ts k:=by
 induction k using Nat.strongRecOn with
 |ind k ih=>
   cases k with
   |zero=>exact⟨fun _ _ h=>absurd h a6,fun _ _ h=>absurd h a6⟩
   |succ k=>exact⟨fun q h1 h2=>MH hl (ih k a6) h1 h2,fun q h1 h2=>MJ hl (fun j hj=>ih j a6) h1 h2⟩
end
end
section
attribute [local congr] Go.Am.ite_cc
open Go Go.Am Go.Asm
open Go.Src (bO ah takeN Ex Stm RQ isR am bS oW kE rem stR ssR nR lR psR fR)
def MK (x:Str) (ps ls:List Str) (w:Bool) (b:RQ (List Stm)):RQ Src.Fn:=(⟨x,ps,ls,w,b.1⟩,b.2)
def fnE (ts:List Src.Tok) (x:Str) (ps:List Str) (w:Bool) (l:RQ (List Str)):RQ Src.Fn:=MK x ps l.1 w (ssR ts (kE ts) ([],l.2))
theorem Rf {ts:List Src.Tok}{q:Nat×Bool} (hl:ts.length≤100000) (hq:q.1≤ts.length):mb 50 [] ts q (fR ts q) fnV:=by
 intro B g ob hB hf ho
 obtain⟨p,hp⟩:∃p,fR ts q=p:=⟨_,rfl⟩
 rw[hp]
 refine dN.toR (hdM B [125] Tryz.func50 rfl [.cell 2 89] Xy hf fun b₀ β0 s0 w0=>?_)
 have n1:=nlo hB
 have n2:=nhi hB
 have hin:InF B g ob g ob:=InF.refl
 have hf1:=hf
 simp only[go_sem,n1,n2]
 refine aQ aa rfl (kG ts q 1 a8 a6) Xx (B+51) a6 (fi hf1) XA ?_
 have hmt:=Src.nL (ts:=ts) (k:=1) a8 hq
 unfold fR at hp
 rcases ht:bS ts 1 q with⟨t,q0⟩
 rw[ht] at hmt
 simp only[ht] at hp
 simp only at hmt
 unfold gv gK
 simp only[go_sem,n1,n2]
 refine ba ts q0 [40] aa rfl Xw Xw a6 (B+51) a6 (fi hf1) ?_
 have hm1:=Src.cY (ts:=ts) (s:=Src.bL) (q:=q0) (by simp[Src.bL]) hmt.2
 rw[show ([40]:Str)=Src.bL from rfl]
 generalize am ts Src.bL q0=q1 at hp hm1 ⊢
 simp only[go_sem,n1,n2]
 by_cases h1:isR ts Src.bB q1
 case' pos=>
  have hlt:=Src.eG h1 (by simp[Src.bB])
  refine cC ts q1 [41] aa rfl Xw Xw a6 (fun _=>?_) (fun h'=>absurd h1 h')
  rcases hps:psR ts q1 with⟨ps,q4⟩
  have e4:(([]:List Str),q1.1+1,false)=(ps,q4):=by rw[←hps];unfold psR;rw[if_pos h1]
  obtain⟨cx,hfx,hcx⟩:∃cx:C,(∀s:St,fW (B≤·) s cx (.sl (ps.map fun s=>[.str s])))∧cx=.d .nsl:=⟨_,fun s=>by cases e4;exact .nil,rfl⟩
  have hm4:q4.1≤ts.length:=by cases e4;exact hlt
  rw[show (q1.1+1,false)=q4 from by cases e4;rfl]
  simp only[go_sem,n1,n2]
  clear h1
 case' neg=>
  have hcn:=wL ts hl q1 hm1.2
  have hmn:=Src.JU (ts:=ts) (q:=q1) hm1.2
  refine cC ts q1 [41] aa rfl Xw Xw a6 (fun h'=>absurd h' h1) (fun _=>?_)
  rcases hnn:nR ts q1 with⟨ps,q3⟩
  rw[hnn] at hcn hmn
  simp only at hmn
  have hm4:=(Src.cY (ts:=ts) (s:=Src.bB) (q:=q3) (by simp[Src.bB]) hmn.2.1).2
  simp only[go_sem,n1,n2]
  refine aQ aa rfl hcn Xx (B+51) a6 (fi hf1) Xw ?_
  simp only[go_sem,n1,n2,fH]
  refine ba ts q3 [41] aa rfl Xw Xw a6 (B+51) a6 (fi hf1) ?_
  have hps:psR ts q1=(ps,am ts Src.bB q3):=by unfold psR;rw[if_neg h1];simp only[hnn]
  rw[show ([41]:Str)=Src.bB from rfl]
  generalize am ts Src.bB q3=q4 at hps hm4 ⊢
  obtain⟨cx,hfx,hcx⟩:∃cx:C,(∀s:St,fW (B≤·) s cx (.sl (ps.map fun s=>[.str s])))∧cx=.d (.sl (ps.map fun s=>[D.str s])):=⟨_,fun s=>.d _,rfl⟩
  simp only[go_sem,n1,n2]
  clear h1
 all_goals
  simp only[hps] at hp
  by_cases h:isR ts [119,111,114,100] q4
  case' pos=>
   have hlt:=Src.eG h a7
   refine cC ts q4 [119,111,114,100] aa rfl Xw Xw a6 (fun _=>?_) (fun h'=>absurd h h')
   obtain⟨w,hw⟩:∃w,w=true:=⟨_,rfl⟩
   obtain⟨q5,hq5⟩:∃q5:Nat×Bool,q5=(q4.1+1,false):=⟨_,rfl⟩
   rw[if_pos h,A6 h,←hw,←hq5] at hp
   have hm5:q5.1≤ts.length:=by rw[hq5];exact hlt
   rw[←hq5]
   simp only[go_sem,n1,n2]
  case' neg=>
   refine cC ts q4 [119,111,114,100] aa rfl Xw Xw a6 (fun h'=>absurd h' h) (fun _=>?_)
   obtain⟨w,hw⟩:∃w,w=false:=⟨_,rfl⟩
   obtain⟨q5,hq5⟩:∃q5:Nat×Bool,q5=q4:=⟨_,rfl⟩
   rw[if_neg h,x8 h,←hw,←hq5] at hp
   have hm5:q5.1≤ts.length:=by rw[hq5];exact hm4
   rw[←hq5]
   simp only[go_sem,n1,n2]
  all_goals
   clear h
   refine ba ts q5 [123] aa rfl Xw Xw a6 (B+51) a6 (fi hf1) ?_
   have hm6:=Src.cY (ts:=ts) (s:=[123]) (q:=q5) a7 hm5
   replace hp:fnE ts t.text ps w (lR ts (kE ts) ([],am ts [123] q5))=p:=hp
   generalize am ts [123] q5=q6 at hp hm6 ⊢
   simp only[go_sem,n1,n2]
   refine iR _ (bV (t:=3) (o:=B+3) (b:=B+29) (j:=2) (sz:=1) (off:=0) (cells:=[.d (.str t.text),cx,.d .nsl,.d (.bool w),.d .nsl]) Xw (by simp only[go_sem,n1,n2,hcx,hw]) rfl a6)
    (fun z st=>∃(j:Nat) (r:RQ (List Str)),z+r.2.1=ts.length∧r.1.length≤r.2.1∧4*rem ts r.2+1≤j∧st.f 0=.one (.ptr 125 (g 125) 0)∧st.f 2=.one (.ptr (B+2) (st.gen (B+2)) 0)∧st.f 3=.one (.ptr (B+3) (st.gen (B+3)) 0)∧(∃a b c d e,st.obj (B+2)=some [a,b,c,d,e])∧
      st.obj (B+3)=some [.d (.str t.text),cx,.osl (B+29) (st.gen (B+29)) 1 0 r.1.length,.d (.bool w),.d .nsl]∧st.obj (B+29)=some (bm r.1)∧st.obj 125=some (rdW ts r.2)∧InF B g ob st.gen st.obj∧(∀i,B+51≤i→st.obj i=none)∧
      fnE ts t.text ps w (lR ts j r)=p) (ts.length-q6.1) ?_ ?_
   ·simp only[St.claimAt]
    refine⟨kE ts,([],q6),by simp only;omega,a7,Src.rv a6 _,?_⟩
    exact W2
   clear hf1 hin hp
   rintro z f g1 ob1 ⟨j,⟨acc,q7⟩,hz,hacc,hj,q0',q2,q3',⟨a,b,c,d,e,o2⟩,o3,o29,o125,hin,hf1,hp⟩
   simp only at hz hacc hj q0' q2 q3' o2 o3 o29 o125 hin hf1
   obtain⟨j,rfl⟩:∃i,j=i+1:=⟨j-1,a6⟩
   rw[lR] at hp
   have hg:=hin.rd
   have hq7:q7.1≤ts.length:=a6
   simp only[go_sem,q0']
   refine cC ts q7 [118,97,114] aa rfl (by simp only[go_sem,n1,n2,hg,q0']) XD a6 (fun h=>?_) (fun h=>?_)
   ·rw[if_pos (show isR ts [118,97,114] ((acc,q7):RQ (List Str)).2 from h)] at hp
    have hlt:=Src.eG h a7
    have hr1:=Src.jK a7 h
    have hcl:=kf acc
    have hcn:=wL ts hl (q7.1+1,false) hlt
    have hmn:=Src.JU (ts:=ts) (q:=(q7.1+1,false)) hlt
    have hrn:=Src.jJ (ts:=ts) (Src.pO (ts:=ts) (q7.1+1,false)) Src.zI
    rcases hnn:nR ts (q7.1+1,false) with⟨ls,q8⟩
    rw[hnn] at hcn hmn hrn
    simp only[hnn] at hp
    simp only at hmn hrn
    have hm9:=Src.cY (ts:=ts) (s:=Src.cp) (q:=q8) (by simp[Src.cp]) hmn.2.1
    have hr9:=Src.lm (ts:=ts) (s:=Src.cp) (q:=q8)
    simp only[go_sem,n1,n2,q0']
    refine dw True aU mixed aa [B+29,125] [([3],[0,1],[],false),([25],[1],[],false),([0],[],[],false),([27],[],[1],false),([26,28],[],[0],false),([3],[0,1],[],false),([30,29],[],[],true)] 2 rfl b9 rfl Xy ?_
    simp only[go_sem]
    (apply ar;(case hf=>rfl);(case hg=>first|exact l7|exact⟨_,rfl,by decide,rfl⟩);(case h1=>intro fa ga oa K' hK;simp only[go_sem,n1,n2,q3',o3] at hK ⊢;exact hK))
    (apply ar;(case hf=>rfl);(case hg=>first|exact l7|exact⟨_,rfl,by decide,rfl⟩);(case h1=>intro fa ga oa K' hK;simp only[go_sem,n1,n2,q3',o3] at hK ⊢;exact hK))
    (apply ar;(case hf=>rfl);(case hg=>first|exact l7|exact⟨_,rfl,by decide,rfl⟩);(case h1=>intro fa ga oa K' hK;simp only[go_sem,q0'] at hK ⊢;exact hK))
    refine dy (v:=fH ls) (y:=some (rdW ts q8)) l7 a7 (fun fa ga oa K' hK=>?_) ?_
    ·simp only[go_sem,n1,n2] at hK ⊢
     refine aQ (k:=bx K') aa rfl hcn XN (B+51) a6 (fi hf1) Xw ?_
     exact WD
    refine cG (a:=0) (v:=.one (.osl (B+29) (nxC (apC 9 (g1 (B+29)) 0) (g1 (B+29))) 1 0 (acc.length+ls.length))) (x:=nxC (apC 9 (g1 (B+29)) 0) (g1 (B+29))) (y:=some (bm (acc++ls))) rfl l7 (fun fa ga oa K' hK=>?_) ?_
    ·simp only[go_sem,n1,n2,fH,o29,hcl,aD,j4] at hK ⊢
     exact Vy
    (apply ar;(case hf=>rfl);(case hg=>first|exact l7|exact⟨_,rfl,by decide,rfl⟩);(case h1=>intro fa ga oa K' hK;simp only[go_sem,n1,n2,q3',o3] at hK ⊢;exact hK))
    refine dA rfl l7 ?_
    intro K' hK'
    simp only[go_sem,n1,n2,o3]
    refine hK' _ ?_
    clear hK' K'
    simp only[go_sem,n1,n2,q0']
    refine ba ts q8 [59] aa rfl (by simp only[go_sem,n1,n2,hg]) Xw a6 (B+51) a6 (fi hf1) ?_
    rw[show ([59]:Str)=Src.cp from rfl]
    simp only[go_sem,n1,n2]
    refine ac (ts.length-(am ts Src.cp q8).1) a6 ⟨j,(acc++ls,am ts Src.cp q8),by simp only;omega,by simp only[j5];omega,by simp only;omega,?_⟩
    simp only[go_sem,n1,n2,q0',q2,q3',j5]
    exact Xd
   ·rw[if_neg (show ¬isR ts [118,97,114] ((acc,q7):RQ (List Str)).2 from h)] at hp
    simp only[go_sem,n1,n2,q0']
    replace hp:MK t.text ps acc w (ssR ts (kE ts) ([],q7))=p:=hp
    refine iR _ (bV (t:=3) (o:=B+3) (b:=B+48) (j:=4) (sz:=5) (off:=0) (cells:=[.d (.str t.text),cx,.osl (B+29) (g1 (B+29)) 1 0 acc.length,.d (.bool w),.d .nsl]) (by simp only[go_sem,n1,n2,q3']) (by simp only[go_sem,n1,n2,o3]) rfl a6)
     (fun z st=>∃(j:Nat) (r:RQ (List Stm)),z=mea ts r.2∧r.2.1≤ts.length∧r.1.length≤r.2.1+1∧(r.2.2=false→r.1.length≤r.2.1)∧(4*rem ts r.2+2≤j∨r.2.2=true∧1≤j)∧st.f 0=.one (.ptr 125 (g 125) 0)∧st.f 2=.one (.ptr (B+2) (st.gen (B+2)) 0)∧st.f 3=.one (.ptr (B+3) (st.gen (B+3)) 0)∧(∃a b c d e,st.obj (B+2)=some [a,b,c,d,e])∧
       st.obj (B+3)=some [.d (.str t.text),cx,.osl (B+29) (st.gen (B+29)) 1 0 acc.length,.d (.bool w),.osl (B+48) (st.gen (B+48)) 5 0 r.1.length]∧st.obj (B+29)=some (bm acc)∧st.obj (B+48)=some (smC r.1)∧st.obj 125=some (rdW ts r.2)∧InF B g ob st.gen st.obj∧(∀i,B+51≤i→st.obj i=none)∧
       MK t.text ps acc w (ssR ts j r)=p) (mea ts q7) ?_ ?_
    ·simp only[St.claimAt]
     refine⟨kE ts,([],q7),rfl,hq7,a7,fun _=>by simp,.inl (Src.rv a6 _),?_⟩
     simp only[go_sem,n1,n2,q0',q2,q3',o29,o125]
     exact⟨⟨_,_,_,_,_,o2⟩,rfl,(InF.go hin),(fi hf1),hp⟩
    clear hf1 hin hp
    rintro z f g1 ob1 ⟨j,⟨body,⟨n,v⟩⟩,hz,hn,hlb,hlb2,hj,q0',q2,q3',⟨a,b,c,d,e,o2⟩,o3,o29,o48,o125,hin,hf1,hp⟩
    simp only at hz hn hlb hlb2 hj q0' q2 q3' o2 o3 o29 o48 o125 hin hf1
    obtain⟨j,rfl⟩:∃i,j=i+1:=⟨j-1,a6⟩
    rw[ssR] at hp
    have hg:=hin.rd
    have o125':=o125
    unfold rdW cF at o125
    have hfin:∀(s:St) (y:Nat×Bool),s.gen (B+29)=g1 (B+29)→s.gen (B+48)=g1 (B+48)→s.obj (B+29)=some (bm acc)→s.obj (B+48)=some (smC body)→eK B s [.agg [.d (.str t.text),cx,.osl (B+29) (g1 (B+29)) 1 0 acc.length,.d (.bool w),.osl (B+48) (g1 (B+48)) 5 0 body.length]] [fnV ⟨t.text,ps,acc,w,body⟩]:=fun s y e1 e2 e3 e4=>
     ⟨_,_,rfl,.agg (xs:=[.str t.text,.sl (ps.map fun s=>[.str s]),.sl (acc.map fun s=>[.str s]),.bool w,.sl (body.map smD)]) rfl (fun i e he=>by
      match i,he with
      |0,he=>cases he;exact⟨_,rfl,.d _⟩
      |1,he=>cases he;exact⟨_,rfl,hfx _⟩
      |2,he=>cases he;exact⟨_,rfl,sf a6 e1 e3 rfl⟩
      |3,he=>cases he;exact⟨_,rfl,.d _⟩
      | 4,he=>cases he;exact⟨_,rfl,eE a6 e2 body smD e4 rfl (fun a _=>fM a) rfl⟩),rfl⟩
    cases v with
    |true=>
      rw[if_pos rfl] at hp
      simp only[go_sem,q0',q2,q3',hg,o2,o3,o125,n1,n2]
      refine⟨_,ab.refl _,?_⟩
      simp only[go_sem,q2,n1,n2]
      exact InF.retW (r:=(⟨t.text,ps,acc,w,body⟩,n,true)) (enc:=fnV) (InF.go hin) hp.symm XP (hfin _ (n,true) Xw Xw (by simp only[go_sem,n1,n2,o29]) (by simp only[go_sem,n1,n2,o48])) rfl
    |false=>
      rw[if_neg (c:=((body,n,false):RQ (List Stm)).2.2=true) a7] at hp
      have hj:=hj.resolve_right fun x=>by cases x.1
      simp only[go_sem,q0',q3',hg,o125,n1,n2]
      refine cC ts (n,false) [125] aa rfl (by simp only[go_sem,n1,n2,hg,q0']) XP XR (fun h=>?_) (fun h=>?_)
      ·rw[if_pos (show isR ts [125] ((body,n,false):RQ (List Stm)).2 from h)] at hp
       simp only[go_sem,q0',q2,q3',hg,o2,o3,n1,n2]
       refine⟨_,ab.refl _,?_⟩
       simp only[go_sem,q2,n1,n2]
       exact InF.retW (r:=(⟨t.text,ps,acc,w,body⟩,n+1,false)) (enc:=fnV) (InF.go hin) hp.symm Xw (hfin _ (n,true) Xw Xw (by simp only[go_sem,n1,n2,o29]) (by simp only[go_sem,n1,n2,o48])) rfl
      rw[if_neg (show ¬isR ts [125] ((body,n,false):RQ (List Stm)).2 from h)] at hp
      have hcl:=wy body
      have hst:=(TF hl j).stmt (n,false) hn a6
      have hms:=Src.Lv (ts:=ts) j (n,false) hn
      have hgo:=Ap (ts:=ts) rfl hn (Src.Ea (ts:=ts) j (n,false) a6) (Src.nW _ _) hms.2
      have hrs:=yx (ts:=ts) (k:=j) (q:=(n,false)) rfl hj
      have hlb2:=hlb2 rfl
      rcases he:stR ts j (n,false) with⟨e9,q9⟩
      rw[he] at hst hms hgo hrs
      simp only[he] at hp
      simp only at hms hgo hrs
      simp only[go_sem,n1,n2,q0',q3']
      refine dw True aU mixed aa [125,B+47,B+48] [([3],[0,1,2],[],false),([43],[0,1],[],false),([0],[],[],false),([45],[],[0],false),([46],[],[1],false),([44,47],[],[2],false),([3],[0,1,2],[],false),([49,48],[],[],true)] 3 rfl b9 rfl Xy ?_
      simp only[go_sem]
      (apply ar;(case hf=>rfl);(case hg=>first|exact l7|exact⟨_,rfl,by decide,rfl⟩);(case h1=>intro fa ga oa K' hK;simp only[go_sem,n1,n2,q3',o3] at hK ⊢;exact hK))
      (apply ar;(case hf=>rfl);(case hg=>first|exact l7|exact⟨_,rfl,by decide,rfl⟩);(case h1=>intro fa ga oa K' hK;simp only[go_sem,n1,n2,q3',o3] at hK ⊢;exact hK))
      (apply ar;(case hf=>rfl);(case hg=>first|exact l7|exact⟨_,rfl,by decide,rfl⟩);(case h1=>intro fa ga oa K' hK;simp only[go_sem,q0'] at hK ⊢;exact hK))
      refine dy (v:=smV e9) (y:=some (rdW ts q9)) l7 a7 (fun fa ga oa K' hK=>?_) ?_
      ·simp only[go_sem,n1,n2] at hK ⊢
       refine aQ (k:=bx K') aa rfl hst XN (B+51) a6 (fi hf1) XP ?_
       exact WD
      (apply cG;(case hf=>rfl);(case hg=>first|exact l7|exact⟨_,rfl,by decide,rfl⟩);(case h1=>intro fa ga oa K' hK;simp only[go_sem,smV,fM,j4,n1,n2] at hK ⊢;exact hK))
      have e1:List.take (body.length*5) (smC body)++List.take 5 (List.map C.d (smD e9))=smC (body++[e9]):=by
       rw[l5 a6,wA,wz,l5 (by simp[fM])]
      refine cG (a:=2) (v:=.one (.osl (B+48) (nxC (apC 156 (g1 (B+48)) 0) (g1 (B+48))) 5 0 (body.length+1))) (x:=nxC (apC 156 (g1 (B+48)) 0) (g1 (B+48))) (y:=some (smC (body++[e9]))) rfl l7 (fun fa ga oa K' hK=>?_) ?_
      ·simp only[go_sem,n1,n2,o48,hcl,fM,j4,aD] at hK ⊢
       exact V4
      (apply ar;(case hf=>rfl);(case hg=>first|exact l7|exact⟨_,rfl,by decide,rfl⟩);(case h1=>intro fa ga oa K' hK;simp only[go_sem,n1,n2,q3',o3] at hK ⊢;exact hK))
      refine dA rfl l7 ?_
      intro K' hK'
      simp only[go_sem,n1,n2,o3]
      refine hK' _ ?_
      clear hK' K'
      simp only[go_sem,n1,n2]
      refine ac (mea ts q9) (by rw[hz];exact hgo.1) ⟨j,(body++[e9],q9),rfl,hms.2,by simp only[j5];simp;omega,fun hw=>by have:=hgo.2 hw;simp only[j5];simp;omega,hrs,?_⟩
      simp only[go_sem,n1,n2,q0',q2,q3',o29,j5,j6,j7]
      exact Xd
end
section
attribute [local congr] Go.Am.ite_cc
open Go Go.Am Go.Asm
open Go.Src (bO ah takeN Ex Stm RQ isR am bS oW kE rem nR fR hR fsR pR)
section
def ML (vs:List Str) (ars:List (Str×Int)) (f:RQ (List Src.Fn)):RQ Src.Prog:=(⟨vs,ars,f.1⟩,f.2)
def prE (ts:List Src.Tok) (h:RQ (List Str×List (Str×Int))):RQ Src.Prog:=ML h.1.1 h.1.2 (fsR ts (kE ts) ([],am ts [102,117,110,99] h.2))
variable {ts:List Src.Tok}
theorem FF (hnum:∀t∈ts,t.num≤4294967295) {k:Nat}{q:Nat×Bool}:(bS ts k q).1.num≤4294967295:=by
 unfold bS
 split
 ·cases h:ts[q.1]? with
  |none=>simp[oW]
  |some t=>exact hnum t (l4 h)
 ·simp[oW]
theorem MM (hl:ts.length≤100000) (hnum:∀t∈ts,t.num≤4294967295):mb 19 [] ts (0,false) (pR ts) de:=by
 intro B g ob hB hf ho
 obtain⟨p,hp⟩:∃p,pR ts=p:=⟨_,rfl⟩
 rw[hp]
 refine dN.toR (hdM B [125] Tryz.func19 rfl [.cell 2 30] Xy hf fun b₀ β0 s0 w0=>?_)
 have n1:=nlo hB
 have n2:=nhi hB
 have hin:InF B g ob g ob:=InF.refl
 have hf1:=hf
 replace hp:prE ts (hR ts (kE ts) (([],[]),0,false))=p:=hp
 simp only[go_sem,n1,n2]
 refine iR _ (((bV (t:=3) (o:=B+3) (b:=B+17) (j:=0) (sz:=1) (off:=0) (cells:=[.d .nsl,.d .nsl,.d .nsl]) Xw Xw rfl a6).trans
   (bV (t:=3) (o:=B+3) (b:=B+43) (j:=1) (sz:=2) (off:=0) (cells:=[.osl (B+17) (g (B+17)+1) 1 0 0,.d .nsl,.d .nsl]) XQ XQ rfl a6)).trans
   (bV (t:=3) (o:=B+3) (b:=B+57) (j:=2) (sz:=5) (off:=0) (cells:=[.osl (B+17) (g (B+17)+1) 1 0 0,.osl (B+43) (g (B+43)+1) 2 0 0,.d .nsl]) XQ XQ rfl a6))
  (fun z st=>∃(j:Nat) (r:RQ (List Str×List (Str×Int))),z=mea ts r.2∧r.2.1≤ts.length∧r.1.1.length≤r.2.1∧r.1.2.length≤r.2.1∧4*rem ts r.2+1≤j∧st.f 0=.one (.ptr 125 (g 125) 0)∧st.f 2=.one (.ptr (B+2) (st.gen (B+2)) 0)∧st.f 3=.one (.ptr (B+3) (st.gen (B+3)) 0)∧(∃a b c,st.obj (B+2)=some [a,b,c])∧
    st.obj (B+3)=some [.osl (B+17) (st.gen (B+17)) 1 0 r.1.1.length,.osl (B+43) (st.gen (B+43)) 2 0 r.1.2.length,.osl (B+57) (st.gen (B+57)) 5 0 0]∧st.obj (B+17)=some (bm r.1.1)∧st.obj (B+43)=some (pQ r.1.2)∧st.obj (B+57)=some []∧st.obj 125=some (rdW ts r.2)∧InF B g ob st.gen st.obj∧(∀i,B+78≤i→st.obj i=none)∧
    prE ts (hR ts j r)=p) (mea ts (0,false)) ?_ ?_
 ·simp only[St.claimAt]
  refine⟨kE ts,(([],[]),0,false),rfl,a7,a7,a7,Src.rv a6 _,?_⟩
  exact Xf
 clear hf1 hin hp
 rintro z f g1 ob1 ⟨j,⟨⟨vs,ars⟩,⟨n,v⟩⟩,hz,hn,hvs,hars,hj,q0,q2,q3,⟨a,b,c,o2⟩,o3,o17,o43,o57,o125,hin,hf1,hp⟩
 simp only at hz hn hvs hars hj q0 q2 q3 o2 o3 o17 o43 o57 o125 hin hf1
 obtain⟨j,rfl⟩:∃i,j=i+1:=⟨j-1,a6⟩
 rw[hR] at hp
 have hg:=hin.rd
 have hcv:=kf vs
 have hca:=xT ars
 have o125':=o125
 unfold rdW cF at o125
 cases v
 case' true=>
  rw[if_pos rfl] at hp
  obtain⟨q6,hq6⟩:∃q6:Nat×Bool,q6=(n,true):=⟨_,rfl⟩
  simp only[go_sem,q0,hg,o125,n1,n2]
 case' false=>
  rw[if_neg (c:=(((vs,ars),n,false):RQ (List Str×List (Str×Int))).2.2=true) a7] at hp
  simp only[go_sem,q0,hg,o125,n1,n2]
  refine cC ts (n,false) [118,97,114] aa rfl XH XP XR (fun h=>?_) (fun h=>?_)
  ·rw[if_pos (show isR ts [118,97,114] (((vs,ars),n,false):RQ (List Str×List (Str×Int))).2 from h)] at hp
   have hlt:=Src.eG h a7
   have hr1:rem ts (n+1,false)+1=rem ts (n,false):=Src.jK a7 h
   have hcn:=wL ts hl (n+1,false) hlt
   have hmn:=Src.JU (ts:=ts) (q:=(n+1,false)) hlt
   have hgn:=Src.pO (ts:=ts) (n+1,false)
   have hrn:=Src.jJ (ts:=ts) hgn Src.zI
   rcases hnn:nR ts (n+1,false) with⟨ls,q8⟩
   rw[hnn] at hcn hmn hrn
   simp only[hnn] at hp
   simp only at hmn hrn
   have hm9:=Src.cY (ts:=ts) (s:=Src.cp) (q:=q8) (by simp[Src.cp]) hmn.2.1
   have hr9:=Src.lm (ts:=ts) (s:=Src.cp) (q:=q8)
   have hme:mea ts (am ts Src.cp q8)<mea ts (n,false):=by
    unfold mea
    rw[if_neg (c:=(n,false).2=true) a7]
    split
    ·omega
    ·simp only;omega
   simp only[go_sem,n1,n2,q0]
   refine dw True aU mixed aa [B+17,125] [([3],[0,1],[],false),([13],[1],[],false),([0],[],[],false),([15],[],[1],false),([14,16],[],[0],false),([3],[0,1],[],false),([18,17],[],[],true)] 2 rfl b9 rfl Xy ?_
   simp only[go_sem]
   (apply ar;(case hf=>rfl);(case hg=>first|exact l7|exact⟨_,rfl,by decide,rfl⟩);(case h1=>intro fa ga oa K' hK;simp only[go_sem,n1,n2,q3,o3] at hK ⊢;exact hK))
   (apply ar;(case hf=>rfl);(case hg=>first|exact l7|exact⟨_,rfl,by decide,rfl⟩);(case h1=>intro fa ga oa K' hK;simp only[go_sem,n1,n2,q3,o3] at hK ⊢;exact hK))
   (apply ar;(case hf=>rfl);(case hg=>first|exact l7|exact⟨_,rfl,by decide,rfl⟩);(case h1=>intro fa ga oa K' hK;simp only[go_sem,q0] at hK ⊢;exact hK))
   refine dy (v:=fH ls) (y:=some (rdW ts q8)) l7 a7 (fun fa ga oa K' hK=>?_) ?_
   ·simp only[go_sem,n1,n2] at hK ⊢
    refine aQ (k:=bx K') aa rfl hcn XN (B+78) a6 (fi hf1) Xw ?_
    exact WD
   refine cG (a:=0) (v:=.one (.osl (B+17) (nxC (apC 9 (g1 (B+17)) 0) (g1 (B+17))) 1 0 (vs.length+ls.length))) (x:=nxC (apC 9 (g1 (B+17)) 0) (g1 (B+17))) (y:=some (bm (vs++ls))) rfl l7 (fun fa ga oa K' hK=>?_) ?_
   ·simp only[go_sem,n1,n2,fH,o17,hcv,aD,j4] at hK ⊢
    exact VG
   (apply ar;(case hf=>rfl);(case hg=>first|exact l7|exact⟨_,rfl,by decide,rfl⟩);(case h1=>intro fa ga oa K' hK;simp only[go_sem,n1,n2,q3,o3] at hK ⊢;exact hK))
   refine dA rfl l7 ?_
   intro K' hK'
   simp only[go_sem,n1,n2,o3]
   refine hK' _ ?_
   clear hK' K'
   simp only[go_sem,n1,n2,q0]
   refine ba ts q8 [59] aa rfl (by simp only[go_sem,n1,n2,hg]) Xw a6 (B+78) a6 (fi hf1) ?_
   rw[show ([59]:Str)=Src.cp from rfl]
   simp only[go_sem,n1,n2]
   refine ac (mea ts (am ts Src.cp q8)) (by rw[hz];exact hme) ⟨j,((vs++ls,ars),am ts Src.cp q8),rfl,hm9.2,by simp only[j5];omega,by simp only;omega,by simp only;omega,?_⟩
   simp only[go_sem,n1,n2,q0,q2,q3,j5]
   exact⟨⟨_,_,_,o2⟩,o43,o57,(InF.go hin),(fi hf1),hp⟩
  rw[if_neg (show ¬isR ts [118,97,114] (((vs,ars),n,false):RQ (List Str×List (Str×Int))).2 from h)] at hp
  simp only[go_sem,n1,n2,q0]
  refine cC ts (n,false) [97,114,114,97,121] aa rfl XH XP XR (fun h=>?_) (fun h=>?_)
  ·rw[if_pos (show isR ts [97,114,114,97,121] (((vs,ars),n,false):RQ (List Str×List (Str×Int))).2 from h)] at hp
   have hlt:=Src.eG h a7
   have hr1:rem ts (n+1,false)+1=rem ts (n,false):=Src.jK a7 h
   simp only[go_sem,n1,n2,q0]
   refine aQ aa rfl (kG ts (n+1,false) 1 a8 XR) XC (B+78) a6 (fi hf1) Xw ?_
   have hm1:=Src.nL (ts:=ts) (k:=1) a8 (q:=(n+1,false)) hlt
   have hr2:=Src.sd (ts:=ts) (k:=1) a8 (q:=(n+1,false))
   rcases ht:bS ts 1 (n+1,false) with⟨t,q4⟩
   rw[ht] at hm1 hr2
   simp only[ht] at hp
   simp only at hm1 hr2
   have hm2:=Src.cY (ts:=ts) (s:=[91]) (q:=q4) a7 hm1.2
   have hr3:=Src.lm (ts:=ts) (s:=[91]) (q:=q4)
   have hm3:=Src.nL (ts:=ts) (k:=2) a8 (q:=am ts [91] q4) hm2.2
   have hr4:=Src.sd (ts:=ts) (k:=2) a8 (q:=am ts [91] q4)
   have hnu:=FF hnum (k:=2) (q:=am ts [91] q4)
   have hct2:=kG ts (am ts [91] q4) 2 a8 a6
   rcases ht2:bS ts 2 (am ts [91] q4) with⟨t2,q5⟩
   rw[ht2] at hm3 hr4 hct2 hnu
   simp only[ht2] at hp
   simp only at hm3 hr4 hnu
   have hm5:=Src.cY (ts:=ts) (s:=[93]) (q:=q5) a7 hm3.2
   have hr5:=Src.lm (ts:=ts) (s:=[93]) (q:=q5)
   have hm6:=Src.cY (ts:=ts) (s:=Src.cp) (q:=am ts [93] q5) (by simp[Src.cp]) hm5.2
   have hr6:=Src.lm (ts:=ts) (s:=Src.cp) (q:=am ts [93] q5)
   have hw2:IntKind.i64.wrap (t2.num:Int)=(t2.num:Int):=by rw[wrap_i64] <;> omega
   have hme:mea ts (am ts Src.cp (am ts [93] q5))<mea ts (n,false):=by
    unfold mea
    rw[if_neg (c:=(n,false).2=true) a7]
    split
    ·omega
    ·simp only at hm1 ⊢;omega
   unfold gv gK
   simp only[go_sem,n1,n2,q0]
   refine ba ts q4 [91] aa rfl XH Xw a6 (B+78) a6 (fi hf1) ?_
   simp only[go_sem,n1,n2,q0]
   refine aQ aa rfl hct2 XC (B+78) a6 (fi hf1) Xw ?_
   unfold gv gK
   simp only[go_sem,n1,n2,q0]
   refine ba ts q5 [93] aa rfl XH Xw a6 (B+78) a6 (fi hf1) ?_
   simp only[go_sem,n1,n2,q0]
   refine ba ts (am ts [93] q5) [59] aa rfl XH Xw a6 (B+78) a6 (fi hf1) ?_
   rw[show ([59]:Str)=Src.cp from rfl]
   simp only[go_sem,n1,n2,q0,hw2,q3,o3,o43,hca,aD]
   refine⟨a6,⟨a8,a6⟩,?_⟩
   have e1:List.take (ars.length*2) (pQ ars)++[C.d (D.str t.text),C.d (D.int IntKind.i64 ↑t2.num)]=pQ (ars++[(t.text,(t2.num:Int))]):=by
    rw[l5 a6]
    simp[pQ,arD]
   rw[e1]
   refine ac (mea ts (am ts Src.cp (am ts [93] q5))) (by rw[hz];exact hme) ⟨j,((vs,ars++[(t.text,(t2.num:Int))]),am ts Src.cp (am ts [93] q5)),rfl,hm6.2,by simp only at hm1 ⊢;omega,by simp only[j5] at hm1 ⊢;simp;omega,by simp only;omega,?_⟩
   simp only[go_sem,n1,n2,q0,q2,q3,j5]
   exact⟨⟨_,_,_,o2⟩,o17,o57,(InF.go hin),(fi hf1),hp⟩
  rw[if_neg (show ¬isR ts [97,114,114,97,121] (((vs,ars),n,false):RQ (List Str×List (Str×Int))).2 from h)] at hp
  obtain⟨q6,hq6⟩:∃q6:Nat×Bool,q6=(n,false):=⟨_,rfl⟩
  simp only[go_sem,n1,n2,q0]
 all_goals
  rw[←hq6] at hp o125'
  have hn6:q6.1≤ts.length:=by rw[hq6];exact hn
  replace hp:ML vs ars (fsR ts (kE ts) ([],am ts [102,117,110,99] q6))=p:=hp
  refine ba ts q6 [102,117,110,99] aa rfl XH XP a6 (B+78) a6 (fi hf1) ?_
  have hm6:=Src.cY (ts:=ts) (s:=[102,117,110,99]) (q:=q6) a7 hn6
  generalize am ts [102,117,110,99] q6=q7 at hp hm6 ⊢
  simp only[go_sem,n1,n2,q0]
  refine ai (fun z st=>∃(j:Nat) (r:RQ (List Src.Fn)),z=mea ts r.2∧r.2.1≤ts.length∧r.1.length≤r.2.1∧rem ts r.2+1≤j∧st.f 0=.one (.ptr 125 (g 125) 0)∧st.f 2=.one (.ptr (B+2) (st.gen (B+2)) 0)∧st.f 3=.one (.ptr (B+3) (st.gen (B+3)) 0)∧(∃a b c,st.obj (B+2)=some [a,b,c])∧
   st.obj (B+3)=some [.osl (B+17) (st.gen (B+17)) 1 0 vs.length,.osl (B+43) (st.gen (B+43)) 2 0 ars.length,.osl (B+57) (st.gen (B+57)) 5 0 r.1.length]∧st.obj (B+17)=some (bm vs)∧st.obj (B+43)=some (pQ ars)∧st.obj (B+57)=some (fnC r.1)∧st.obj 125=some (rdW ts r.2)∧InF B g ob st.gen st.obj∧(∀i,B+78≤i→st.obj i=none)∧
   ML vs ars (fsR ts j r)=p) (mea ts q7) ?_ ?_
  ·refine⟨kE ts,([],q7),rfl,hm6.2,a7,by unfold Src.kE Src.rem;split <;> omega,?_⟩
   simp only[go_sem,n1,n2,q0,q2,q3]
   exact⟨⟨_,_,_,o2⟩,o3,o17,o43,by simpa[fnC] using o57,(InF.go hin),(fi hf1),hp⟩
  clear hf1 hin hp q0 q2 q3 o2 o3 o17 o43 o57 o125 o125' hg hq6
  rintro z f g1 ob1 ⟨j,⟨fs,⟨m,u⟩⟩,hz,hm,hfs,hj,q0,q2,q3,⟨a,b,c,o2⟩,o3,o17,o43,o57,o125,hin,hf1,hp⟩
  simp only at hz hm hfs hj q0 q2 q3 o2 o3 o17 o43 o57 o125 hin hf1
  obtain⟨j,rfl⟩:∃i,j=i+1:=⟨j-1,a6⟩
  rw[fsR] at hp
  have hg:=hin.rd
  have hcf:=Bv fs
  have o125':=o125
  unfold rdW cF at o125
  have hfin:∀(s:St) (x y w k:Nat) (l:List Src.Fn),l.length=k→s.gen (B+17)=x→s.gen (B+43)=y→s.gen (B+57)=w→s.obj (B+17)=some (bm vs)→s.obj (B+43)=some (pQ ars)→s.obj (B+57)=some (fnC l)→eK B s [.agg [.osl (B+17) x 1 0 vs.length,.osl (B+43) y 2 0 ars.length,.osl (B+57) w 5 0 k]] [de ⟨vs,ars,l⟩]:=fun s x y w k l e0 e1 e2 e3 e4 e5 e6=>
   ⟨_,_,rfl,.agg (xs:=[.sl (vs.map fun s=>[.str s]),.sl (ars.map arD),.sl (l.map fnD)]) rfl (fun i e he=>by
    match i,he with
    |0,he=>cases he;exact⟨_,rfl,sf a6 e1 e4 rfl⟩
    |1,he=>cases he;exact⟨_,rfl,ES a6 e2 e5 rfl⟩
    | 2,he=>cases he;exact⟨_,rfl,Ku a6 e3 e6 e0⟩),rfl⟩
  cases u with
  |true=>
    rw[if_pos rfl] at hp
    simp only[go_sem,q0,q2,q3,hg,o2,o3,o125,n1,n2]
    refine⟨_,ab.refl _,?_⟩
    simp only[go_sem,q2,n1,n2]
    exact InF.retW (r:=(⟨vs,ars,fs⟩,m,true)) (enc:=de) (InF.go hin) hp.symm XP (hfin _ _ _ _ _ fs rfl rfl rfl rfl Y0 Za (by simp only[go_sem,n1,n2,o57])) rfl
  |false=>
    rw[if_neg (c:=((fs,m,false):RQ (List Src.Fn)).2.2=true) a7] at hp
    simp only at hp
    have hcf1:=Rf hl (q:=(m,false)) hm
    have hmf:=Src.TO (ts:=ts) (q:=(m,false)) hm
    have hgf:=Src.Hz (ts:=ts) (m,false)
    have hgo:=Ap (ts:=ts) rfl hm hgf Src.HA hmf.2
    rcases he:fR ts (m,false) with⟨⟨fx,fp,fl,fw,fb⟩,q8⟩
    rw[he] at hcf1 hmf hgo
    simp only[he] at hp
    simp only at hmf hgo
    simp only[go_sem,q0,hg,o125,n1,n2]
    refine dw True aU mixed aa [125,B+56,B+57] [([3],[0,1,2],[],false),([52],[0,1],[],false),([0],[],[],false),([54],[],[0],false),([55],[],[1],false),([53,56],[],[2],false),([3],[0,1,2],[],false),([58,57],[],[],true)] 3 rfl b9 rfl Xy ?_
    simp only[go_sem]
    (apply ar;(case hf=>rfl);(case hg=>first|exact l7|exact⟨_,rfl,by decide,rfl⟩);(case h1=>intro fa ga oa K' hK;simp only[go_sem,n1,n2,q3,o3] at hK ⊢;exact hK))
    (apply ar;(case hf=>rfl);(case hg=>first|exact l7|exact⟨_,rfl,by decide,rfl⟩);(case h1=>intro fa ga oa K' hK;simp only[go_sem,n1,n2,q3,o3] at hK ⊢;exact hK))
    (apply ar;(case hf=>rfl);(case hg=>first|exact l7|exact⟨_,rfl,by decide,rfl⟩);(case h1=>intro fa ga oa K' hK;simp only[go_sem,q0] at hK ⊢;exact hK))
    refine dy (v:=fnV ⟨fx,fp,fl,fw,fb⟩) (y:=some (rdW ts q8)) l7 a7 (fun fa ga oa K' hK=>?_) ?_
    ·simp only[go_sem,n1,n2] at hK ⊢
     refine aQ (k:=bx K') aa rfl hcf1 XN (B+78) a6 (fi hf1) XP ?_
     exact WD
    (apply cG;(case hf=>rfl);(case hg=>first|exact l7|exact⟨_,rfl,by decide,rfl⟩);(case h1=>intro fa ga oa K' hK;simp only[go_sem,fnV,fnD] at hK ⊢;exact hK))
    refine cG (a:=2) (v:=.one (.osl (B+57) (nxC (apC 89 (g1 (B+57)) 0) (g1 (B+57))) 5 0 (fs.length+1))) (x:=nxC (apC 89 (g1 (B+57)) 0) (g1 (B+57))) (y:=some (fnC (fs++[⟨fx,fp,fl,fw,fb⟩]))) rfl l7 (fun fa ga oa K' hK=>?_) ?_
    ·simp only[go_sem,n1,n2,o57,aD,j4,hcf] at hK ⊢
     have e1:List.take (fs.length*5) (fnC fs)++(fnD ⟨fx,fp,fl,fw,fb⟩).map C.d=fnC (fs++[⟨fx,fp,fl,fw,fb⟩]):=by
      rw[l5 a6,Bw,wk]
     simp only[fnD,l6,v7] at e1
     exact V4
    (apply ar;(case hf=>rfl);(case hg=>first|exact l7|exact⟨_,rfl,by decide,rfl⟩);(case h1=>intro fa ga oa K' hK;simp only[go_sem,n1,n2,q3,o3] at hK ⊢;exact hK))
    refine dA rfl l7 ?_
    intro K' hK'
    simp only[go_sem,n1,n2,o3]
    refine hK' _ ?_
    clear hK' K'
    simp only[go_sem,n1,n2,q0]
    refine aM b9 ?_
    obtain⟨m8,u8⟩:=q8
    simp only at hmf hgo hp
    cases u8 with
    |true=>
      rw[if_pos (.inl rfl)] at hp
      simp only[go_sem,n1,n2,hg,q0,q2,q3,o2,o3,rdW,cF,j4]
      refine⟨_,ab.refl _,?_⟩
      simp only[go_sem,q2,n1,n2]
      exact InF.retW (ts:=ts) (p:=p) (r:=(⟨vs,ars,fs++[Src.Fn.mk fx fp fl fw fb]⟩,m8,true)) (enc:=de) (InF.go hin) hp.symm YD (hfin _ _ _ _ _ (fs++[Src.Fn.mk fx fp fl fw fb]) a7 Xw Xw Xw Y0 Za Xw) rfl
    |false=>
      by_cases hml:m8=ts.length
      ·subst hml
       rw[if_pos (.inr rfl)] at hp
       simp only[go_sem,n1,n2,hg,q0,q2,q3,o2,o3,rdW,cF,j4]
       refine⟨_,ab.refl _,?_⟩
       simp only[go_sem,q2,n1,n2]
       exact InF.retW (ts:=ts) (p:=p) (r:=(⟨vs,ars,fs++[Src.Fn.mk fx fp fl fw fb]⟩,ts.length,false)) (enc:=de) (InF.go hin) hp.symm YD (hfin _ _ _ _ _ (fs++[Src.Fn.mk fx fp fl fw fb]) a7 Xw Xw Xw Y0 Za Xw) rfl
      ·have hmi:¬(m8:Int)=(ts.length:Int):=a6
       have hgo2:=hgo.2 rfl
       have hm9:=Src.cY (ts:=ts) (s:=[102,117,110,99]) (q:=(m8,false)) a7 hmf.2
       have hr9:=Src.lm (ts:=ts) (s:=[102,117,110,99]) (q:=(m8,false))
       have hj8:rem ts (am ts [102,117,110,99] (m8,false))+1≤j:=by
        unfold Src.rem at hj hr9
        rw[if_neg (c:=(m,false).2=true) a7] at hj
        unfold Src.rem
        rw[if_neg (c:=(m8,false).2=true) a7] at hr9
        simp only at hj hr9
        omega
       have hme:mea ts (am ts [102,117,110,99] (m8,false))<mea ts (m,false):=by
        unfold mea
        rw[if_neg (c:=(m,false).2=true) a7]
        split
        ·omega
        ·simp only at hm9 ⊢;omega
       rw[if_neg (fun x=>x.elim (fun x=>by cases x) hml)] at hp
       simp only[go_sem,n1,n2,hg,q0,rdW,cF,j4,hmi]
       refine ba ts (m8,false) [102,117,110,99] aa rfl XH YD XR (B+78) a6 (fi hf1) ?_
       simp only[go_sem,n1,n2]
       refine ac (mea ts (am ts [102,117,110,99] (m8,false))) (by rw[hz];exact hme) ⟨j,(fs++[Src.Fn.mk fx fp fl fw fb],am ts [102,117,110,99] (m8,false)),rfl,hm9.2,by simp only[j5] at hm9 ⊢;simp;omega,hj8,?_⟩
       simp only[go_sem,n1,n2,q0,q2,q3,o17,o43,j5,j6,j7]
       exact⟨⟨_,_,_,o2⟩,rfl,(InF.go hin),(fi hf1),hp⟩
end
end
section
attribute [local congr] Go.Am.ite_cc
open Go Go.Am Go.Asm
open Go.Src (RQ rem)
theorem BK {q:Nat×Bool}{ts:List Src.Tok}{g:Nat→Nat}{ob:Obs} (src:Str) (ho:ob 125=some (rdW ts q)) :
  iN Tryz.prog 20 [.one (.ptr 125 (g 125) 0),sv src] g ob (fun r g' ob'=>r=iv .i64 (jC ts src.length q.1:Nat)∧g'=g∧ob'=ob):=by
 obtain⟨n,w⟩:=q
 show iN Tryz.prog 20 _ g ob (fun r g' ob'=>r=iv .i64 (jC ts src.length n:Nat)∧g'=g∧ob'=ob)
 generalize hz:jC ts src.length n=z
 refine hdF 9000 Tryz.func20 rfl [4] ?_
 unfold rdW cF at ho
 unfold jC at hz
 have hn0:(0:Int)≤(n:Int):=a6
 simp only[go_sem]
 refine bP b9 ?_
 by_cases hlt:n<ts.length
 case neg=>
  exact WQ
 have hlti:(n:Int)<(ts.length:Int):=a6
 obtain⟨t,ht⟩:=getq hlt
 have htg:=jD ht
 rw[ht] at hz
 simp only at hz
 subst hz
 simp only[go_sem,ho,j4,hlti]
 exact Wj
end
section
attribute [local congr] Go.Am.ite_cc
open Go Go.Am Go.Asm
theorem yw (s w:Str) (n:Nat) (hn:n≤s.length) (hs:s.length≤1000000) (hw:w.length≤1000000):aA Tryz.prog 83 [sv s,iv .i64 n,sv w] (· = bv (w.isPrefixOf (s.drop n))):=by
 refine hdR Tryz.func83 rfl [.tmp 6] fun g=>?_
 generalize hz:w.isPrefixOf (s.drop n)=z
 have hwr:IntKind.i64.wrap ((n:Int)+(w.length:Int))=((n+w.length:Nat):Int):=by rw[wrap_i64 _ a6 a6];omega
 by_cases h:n+w.length≤s.length
 ·have hi:((n+w.length:Nat):Int)≤(s.length:Int):=a6
  simp only[go_sem,hwr,hi]
  refine⟨a6,h,?_⟩
  rw[←hz,O2,I7,P7,decide_eq_true_iff,I0,N8]
  exact⟨fun h=>h.symm,fun h=>h.symm⟩
 ·have hi:¬((n+w.length:Nat):Int)≤(s.length:Int):=a6
  obtain rfl:z=false:=by
   rw[←hz]
   cases hp:w.isPrefixOf (s.drop n) with
   |false=>rfl
   |true=>
     have:=(I0.1 hp).length_le
     rw[A2] at this
     omega
  simp only[go_sem,hwr,hi]
end
end Go.Proofs.YthnomjfdcidgbaaGreatDoor
namespace Go.Src
section
open Go.Asm (Str)
structure InP (p:Prog):Prop where
 v:p.vars.length≤1000000000000000000
 a:p.arrays.length≤1000000000000000000
 f:p.funcs.length≤1000000000000000000
 fs:∀f∈p.funcs,(f.params.length≤1000000000000000000∧f.locals.length≤1000000000000000000)∧f.body.length≤1000000000000000000∧tM f.body
end
end Go.Src
namespace Go.Proofs.YthnomjfdcidgbaaGreatDoor
section
open Go Go.Am Go.Asm
open Go.Src (Ex Stm szE bH szS bu inE tL inS tM)
theorem ly {α:Type}{p:α→Bool}{l:List α}{k:Nat}{x:α}{z:Bool} (h:(l.drop k).all p=z) (hx:l[k]? = some x):(p x=true→(l.drop (k+1)).all p=z)∧(p x=false→z=false):=by
 rw[yq hx,D4] at h
 constructor
 ·intro e;rw[e,u7] at h;exact h
 ·intro e;rw[e,x9] at h;exact h.symm
def mz (l:List Str):AV:=.one (.d (.sl (l.map fun s=>[.str s])))
theorem Fy (p:Src.Prog):de p=.agg [.d (.sl (p.vars.map fun s=>[.str s])),.d (.sl (p.arrays.map arD)),.d (.sl (p.funcs.map fnD))]:=rfl
end
section
attribute [local congr] Go.Am.ite_cc
open Go Go.Am Go.Asm
open Go.Src (aS ep)
theorem jG (c:UInt8):aA Tryz.prog 84 [iv .u8 c.toNat] (· = bv (digit c)):=by
 refine hdP Tryz.func84 rfl [2] fun g=>?_
 simp only[go_sem]
 have e:=@nN c
 cases hs:digit c <;> rw[hs] at e <;> simp at e <;> ((repeat' (first|refine⟨?_,?_⟩|intro _)) <;> (first|rfl|(exfalso;omega)|(simp;omega)))
theorem kg (c:UInt8):aA Tryz.prog 86 [iv .u8 c.toNat] (· = bv (letter c)):=by
 refine hdP Tryz.func86 rfl [2] fun g=>?_
 simp only[go_sem]
 have e:=@tt c
 cases hs:letter c <;> rw[hs] at e <;> simp at e <;> ((repeat' (first|refine⟨?_,?_⟩|intro _)) <;> (first|rfl|(exfalso;omega)|(simp;omega)))
theorem yr:aA Tryz.prog 88 [] (· = mz ep):=by
 refine hdP Tryz.func88 rfl [0] fun g=>?_
 simp only[go_sem]
 exact⟨_,⟨_,tw (L:=ep) rfl rfl rfl,rfl⟩,rfl⟩
theorem Fz:aA Tryz.prog 93 [] (· = mz ep):=by
 refine hdP Tryz.func93 rfl [0] fun g=>?_
 simp only[go_sem]
 exact⟨_,⟨_,tw (L:=ep) rfl rfl rfl,rfl⟩,rfl⟩
theorem FA {l:List Str}{k:Nat}{s x:Str}{z:Bool} (h:decide (s∈l.drop k)=z) (hx:l[k]? = some x):(x=s→z=true)∧(x≠s→decide (s∈l.drop (k+1))=z):=by
 rw[yq hx] at h
 constructor
 ·rintro rfl;rw[←h];simp
 ·intro e;rw[←h];simp[z8 e]
theorem Rb (l:List Str) (s:Str) (hl:l.length≤1000000000000000000):aA Tryz.prog 87 [mz l,sv s] (· = bv (decide (s∈l))):=by
 refine hdP Tryz.func87 rfl [4] fun g=>?_
 obtain⟨z,hz⟩:∃z,decide (s∈l)=z:=⟨_,rfl⟩
 rw[hz]
 unfold mz
 simp only[go_sem]
 refine my (fun k st=>decide (s∈l.drop k)=z∧st.f 0=.one (.d (.sl (l.map fun s=>[.str s])))∧st.f 1=sv s∧st.f 5=iv .i64 k) l.length ⟨hz,?_⟩ ?_
 ·exact UO
 rintro k f g1 ob1 hk ⟨hc,q0,q1,q5⟩
 simp only at q0 q1 q5
 have hw:=ae (k:=k) a6
 by_cases hlt:k<l.length
 case neg=>
  have hki:¬(k:Int)<(l.length:Int):=a6
  rw[A1 a6] at hc
  obtain rfl:z=false:=by rw[←hc];rfl
  simp only[go_sem,q0,q5,hki,j4]
 have hki:(k:Int)<(l.length:Int):=a6
 obtain⟨x,hx⟩:=getq hlt
 obtain⟨h1,h2⟩:=FA hc hx
 have hg:=getD_at (f:=fun s:Str=>[D.str s]) hx
 by_cases hn:x=s
 ·obtain rfl:=h1 hn
  simp only[go_sem,q0,q1,q5,hki,j4,hg,hn]
 ·simp only[go_sem,q0,q1,q5,hki,j4,hg,hn,hw]
  refine fu hlt ⟨h2 hn,?_⟩
  exact WL
theorem ph (s:Str):aS s=true↔s≠[]∧s.length≤20∧s.head?.any letter=true∧s.all cM=true∧s∉ep:=by
 have e:s.takeWhile cM=s↔s.all cM=true:=by
  induction s with
  |nil=>simp
  |cons a s ih=>rw[F0,D4];cases h:cM a <;> simp[ih]
 unfold aS
 rw[B9,e]
theorem II (s:Str):aA Tryz.prog 94 [sv s] (· = bv (aS s)):=by
 refine hdP Tryz.func94 rfl [2] fun g=>?_
 obtain⟨z,hz⟩:∃z,aS s=z:=⟨_,rfl⟩
 rw[hz]
 have hno:∀h:¬(s≠[]∧s.length≤20∧s.head?.any letter=true∧s.all cM=true∧s∉ep),z=false:=fun h=>by
  cases z
  ·rfl
  ·exact absurd ((ph s).1 hz) h
 by_cases hnil:s=[]
 ·obtain rfl:=hno fun h=>h.1 hnil
  simp only[go_sem,hnil]
 have hn0:¬(s.length:Int)=0:=fun e=>hnil (v8 a6)
 by_cases hlen:20<(s.length:Int)
 ·obtain rfl:=hno fun h=>by have:=h.2.1;omega
  simp only[go_sem,hn0,hlen]
 obtain⟨c,hc⟩:∃c,s[0]? = some c:=getq a6
 have hhd:s.head? = some c:=by rw[←hc,S9]
 simp only[go_sem,hn0,hlen,hc]
 refine cP rfl (by simp only[go_sem];exact kg c) ?_
 rintro _ rfl
 cases hlc:letter c
 ·obtain rfl:=hno fun h=>by have:=h.2.2.1;rw[hhd] at this;simp[hlc] at this
  exact UO
 simp only[go_sem]
 refine cP rfl (by simp only[go_sem];exact yr) ?_
 rintro _ rfl
 simp only[go_sem]
 refine cP rfl (by simp only[go_sem];exact Rb ep s a8) ?_
 rintro _ rfl
 by_cases hw:s∈ep
 ·obtain rfl:=hno fun h=>h.2.2.2.2 hw
  simp only[go_sem,hw,P0]
 simp only[go_sem,hw,I2]
 obtain⟨y,hy⟩:∃y,s.all cM=y:=⟨_,rfl⟩
 have hzy:z=y:=by
  cases hz':z
  ·cases hy':y
   ·rfl
   ·rw[hz'] at hz;rw[hy'] at hy
    have:=(ph s).2 ⟨hnil,a6,by rw[hhd];simp[hlc],hy,hw⟩
    rw[this] at hz;cases hz
  ·rw[hz'] at hz
   rw[←hy,((ph s).1 hz).2.2.2.1]
 rw[hzy]
 clear hz hno hzy hw hlc
 refine my (fun k st=>(s.drop k).all cM=y∧st.f 0=sv s∧st.f 3=iv .i64 k) s.length ⟨hy,?_⟩ ?_
 ·exact UO
 rintro k f g1 ob1 hk ⟨hc,q0,q3⟩
 simp only at q0 q3
 have hw:=ae (k:=k) a6
 by_cases hlt:k<s.length
 case neg=>
  have hki:¬(k:Int)<(s.length:Int):=a6
  rw[A1 a6] at hc
  obtain rfl:y=true:=hc.symm
  simp only[go_sem,q0,q3,hki]
 have hki:(k:Int)<(s.length:Int):=a6
 obtain⟨x,hx⟩:=getq hlt
 obtain⟨h1,h2⟩:=ly hc hx
 simp only[go_sem,q0,q3,hki,hx]
 refine cP rfl (by simp only[go_sem];exact kg x) ?_
 rintro _ rfl
 cases hlx:letter x
 ·simp only[go_sem,q0,q3,hx]
  refine cP rfl (by simp only[go_sem];exact jG x) ?_
  rintro _ rfl
  cases hdx:digit x
  ·by_cases hx9:(x.toNat:Int)=95
   ·have e:cM x=true:=by
     have:x=95:=L4.1 (by show x.toNat=95;omega)
     simp[cM,this]
    simp only[go_sem,q0,q3,hx,hx9,hw]
    refine fu hlt ⟨h1 e,?_⟩
    simp only[go_sem,q0]
   ·have e:cM x=false:=by
     have:x≠95:=fun e=>hx9 (by rw[e];rfl)
     simp[cM,hlx,hdx,this]
    obtain rfl:=h2 e
    simp only[go_sem,q0,q3,hx,hx9]
  ·simp only[go_sem,q3,hw]
   refine fu hlt ⟨h1 (by simp[cM,hdx]),?_⟩
   simp only[go_sem,q0]
 ·simp only[go_sem,q3,hw]
  refine fu hlt ⟨h1 (by simp[cM,hlx]),?_⟩
  simp only[go_sem,q0]
theorem iW (s:Str):aA Tryz.prog 52 [sv s] (· = bv (aS s)):=by
 refine hdP Tryz.func52 rfl [2] fun g=>?_
 have hn:=II s
 have hno:s∈ep→aS s=false:=fun h=>x8 fun h'=>h'.2.2.2.2 h
 obtain⟨z,hz⟩:∃z,aS s=z:=⟨_,rfl⟩
 rw[hz] at hn hno ⊢
 simp only[go_sem]
 refine cP rfl (by simp only[go_sem];exact Fz) ?_
 rintro _ rfl
 unfold mz
 simp only[go_sem]
 refine my (fun k st=>st.f 0=sv s∧st.f 3=.one (.d (.sl (ep.map fun s=>[.str s])))∧st.f 4=iv .i64 k) 10 ⟨?_,?_⟩ ?_
 ·exact UO
 ·exact UO
 rintro k f g1 ob1 hk ⟨q0,q3,q4⟩
 simp only at q0 q3 q4
 have hw:=ae (k:=k) a6
 have h10:((ep.length:Nat):Int)=10:=rfl
 by_cases hlt:k<10
 case neg=>
  have hki:¬(k:Int)<10:=a6
  simp only[go_sem,q0,q3,q4,hki,j4,h10]
  refine cP rfl (by simp only[go_sem];exact hn) ?_
  rintro _ rfl
  exact UO
 have hki:(k:Int)<10:=a6
 obtain⟨x,hx⟩:=getq (l:=ep) (k:=k) hlt
 have hg:=getD_at (f:=fun s:Str=>[D.str s]) hx
 by_cases he:s=x
 ·obtain rfl:=hno (by rw[he];exact l4 hx)
  simp only[go_sem,q0,q3,q4,hki,j4,h10,hg,he]
 ·simp only[go_sem,q0,q3,q4,hki,j4,h10,hg,he,hw]
  refine fu hlt ⟨?_,?_⟩
  ·simp only[go_sem,q0]
  ·simp only[go_sem,q3]
theorem wG (l:List Str) (hl:l.length≤1000000000000000000):aA Tryz.prog 51 [mz l] (· = bv (l.all aS)):=by
 refine hdP Tryz.func51 rfl [2] fun g=>?_
 obtain⟨z,hz⟩:∃z,l.all aS=z:=⟨_,rfl⟩
 rw[hz]
 unfold mz
 simp only[go_sem]
 refine my (fun k st=>(l.drop k).all aS=z∧st.f 0=.one (.d (.sl (l.map fun s=>[.str s])))∧st.f 3=iv .i64 k) l.length ⟨hz,?_⟩ ?_
 ·exact UO
 rintro k f g1 ob1 hk ⟨hc,q0,q3⟩
 simp only at q0 q3
 have hw:=ae (k:=k) a6
 by_cases hlt:k<l.length
 case neg=>
  have hki:¬(k:Int)<(l.length:Int):=a6
  rw[A1 a6] at hc
  obtain rfl:z=true:=hc.symm
  simp only[go_sem,q0,q3,hki,j4]
 have hki:(k:Int)<(l.length:Int):=a6
 obtain⟨s,hx⟩:=getq hlt
 obtain⟨h1,h2⟩:=ly hc hx
 have hg:=getD_at (f:=fun s:Str=>[D.str s]) hx
 simp only[go_sem,q0,q3,hki,j4,hg]
 refine cP rfl (by simp only[go_sem];exact iW s) ?_
 rintro _ rfl
 cases hn:aS s
 ·obtain rfl:=h2 hn
  exact UO
 ·simp only[go_sem,q3,hw]
  refine fu hlt ⟨h1 hn,?_⟩
  simp only[go_sem,q0]
end
end Go.Proofs.YthnomjfdcidgbaaGreatDoor
namespace Go.Src
section
attribute [local congr] Go.Am.ite_cc
open Go.Asm (Str)
def eu:Nat→Str→Nat
 |0,_=>0
 |_+1,[]=>0
 |n+1,c::r=>if c=32∨c=9∨c=10 then eu n r+1 else if c=47∧r.head? = some 47 then eu n ((c::r).dropWhile (· != 10))+((c::r).takeWhile (· != 10)).length else 0
end
end Go.Src
namespace Go.Proofs.YthnomjfdcidgbaaGreatDoor
section
attribute [local congr] Go.Am.ite_cc
open Go Go.Am Go.Asm
open Go.Src (eu)
theorem BJ {P:UInt8→Bool}:∀l:Str,l.drop (l.takeWhile P).length=l.dropWhile P
 |[]=>rfl
 |a::l=>by
   have ih:=BJ (P:=P) l
   cases h:P a <;> simp[F0,Q2,h,ih]
theorem FC (s:Str) (n:Nat) (hn:n≤s.length) (hs:s.length≤1000000):aA Tryz.prog 44 [sv s,iv .i64 n] (· = iv .i64 (n+eu (s.length+1) (s.drop n):Nat)):=by
 refine hdP Tryz.func44 rfl [4] fun g=>?_
 obtain⟨p,hp⟩:∃p,n+eu (s.length+1) (s.drop n)=p:=⟨_,rfl⟩
 rw[hp]
 simp only[go_sem]
 refine my (fun k st=>∃(j m:Nat),k≤m∧m≤s.length∧s.length-m+1≤j∧m+eu j (s.drop m)=p∧st.f 0=sv s∧st.f 1=iv .i64 m) s.length ⟨s.length+1,n,a6,hn,a6,hp,?_⟩ ?_
 ·exact UO
 rintro k f g1 ob1 hk ⟨j,m,hkm,hm,hj,hpm,q0,q1⟩
 simp only at q0 q1
 obtain⟨j,rfl⟩:∃i,j=i+1:=⟨j-1,a6⟩
 have hm0:(0:Int)≤(m:Int):=a6
 by_cases hlt:m<s.length
 case neg=>
  have hmi:¬(m:Int)<(s.length:Int):=a6
  rw[A1 a6,eu] at hpm
  obtain rfl:m=p:=a6
  simp only[go_sem,q0,q1,hmi]
 have hmi:(m:Int)<(s.length:Int):=a6
 obtain⟨c,hc⟩:=getq hlt
 have hd:s.drop m=c::s.drop (m+1):=by rw[y9 hlt];congr 1;rw[w8 hlt] at hc;exact E3 hc
 rw[hd,eu] at hpm
 have hw:=ae (k:=m) a6
 have hn8:∀x:UInt8,c≠x→¬(c.toNat:Int)=(x.toNat:Int):=fun x hx h=>hx (L4.1 a6)
 have hblank:(c=32∨c=9∨c=10)→m+1+eu j (s.drop (m+1))=p:=fun hb=>by rw[if_pos hb] at hpm;omega
 by_cases h32:c=32
 ·have i1:(c.toNat:Int)=32:=by rw[h32];rfl
  simp only[go_sem,q0,q1,hmi,hm0,hc,i1,hw]
  refine fu a6 ⟨j,m+1,a6,a6,a6,hblank (.inl h32),?_⟩
  exact WL
 have i1:¬(c.toNat:Int)=32:=hn8 32 h32
 by_cases h9:c=9
 ·have i2:(c.toNat:Int)=9:=by rw[h9];rfl
  simp only[go_sem,q0,q1,hmi,hm0,hc,i1,i2,hw]
  refine fu a6 ⟨j,m+1,a6,a6,a6,hblank (.inr (.inl h9)),?_⟩
  exact WL
 have i2:¬(c.toNat:Int)=9:=hn8 9 h9
 by_cases h10:c=10
 ·have i3:(c.toNat:Int)=10:=by rw[h10];rfl
  simp only[go_sem,q0,q1,hmi,hm0,hc,i1,i2,i3,hw]
  refine fu a6 ⟨j,m+1,a6,a6,a6,hblank (.inr (.inr h10)),?_⟩
  exact WL
 have i3:¬(c.toNat:Int)=10:=hn8 10 h10
 rw[if_neg (by simp[h32,h9,h10])] at hpm
 simp only[go_sem,q0,q1,hmi,hm0,hc,i1,i2,i3]
 refine eN rfl (by simp only[go_sem,q0,q1];exact yw s [47,47] m hm hs a8) (by simp only[go_sem,q0,q1];rfl) ?_
 rintro _ rfl
 rw[hd]
 have hpre:List.isPrefixOf [47,47] (c::s.drop (m+1))=decide (c=47∧(s.drop (m+1)).head? = some 47):=by
  cases hq:s.drop (m+1) with
  |nil=>simp[List.isPrefixOf]
  |cons d r=>simp only[List.isPrefixOf,List.head?_cons,s7,I4];rw[P7,s6,decide_eq_true_iff,H7,H7];exact⟨fun h=>⟨h.1.symm,h.2.symm⟩,fun h=>⟨h.1.symm,h.2.symm⟩⟩
 rw[hpre]
 by_cases h47:c=47∧(s.drop (m+1)).head? = some 47
 case neg=>
  rw[if_neg h47] at hpm
  obtain rfl:m=p:=a6
  simp only[go_sem,x8 h47,q0,q1]
 rw[if_pos h47] at hpm
 simp only[go_sem,A6 h47,q0,q1]
 rw[←hd] at hpm
 obtain⟨e,he⟩:∃e,m+((s.drop m).takeWhile (· != 10)).length=e:=⟨_,rfl⟩
 have hel:e≤s.length:=by
  have:=(G0 (p:=(· != (10:UInt8))) (l:=s.drop m)).length_le
  rw[A2] at this
  omega
 have hme:m+1≤e:=by
  rw[hd,I9 (by simpa using h10),j6] at he
  omega
 have hde:s.drop e=(s.drop m).dropWhile (· != 10):=by
  rw[←he,←J0,BJ]
 have hpe:e+eu j (s.drop e)=p:=by rw[hde];omega
 refine my (fun i st=>m+i≤s.length∧m+i+((s.drop (m+i)).takeWhile (· != 10)).length=e∧st.f 0=sv s∧st.f 1=iv .i64 (m+i:Nat)) (s.length-m) ⟨hm,he,?_⟩ ?_
 ·exact WL
 clear q0 q1
 rintro i f g1 ob1 hi ⟨hmi2,hie,q0,q1⟩
 simp only at q0 q1
 have hw2:=ae (k:=m+i) a6
 have hq0:(0:Int)≤((m+i:Nat):Int):=a6
 have hend:m+i=e→m+i+eu j (s.drop (m+i))=p:=fun h=>by rw[h];exact hpe
 by_cases hlt2:m+i<s.length
 case neg=>
  have hli:¬((m+i:Nat):Int)<(s.length:Int):=a6
  rw[A1 a6] at hie
  simp only[List.takeWhile_nil,j7] at hie
  simp only[go_sem,q0,q1,hli]
  refine fu a6 ⟨j,m+i,a6,a6,a6,hend a6,?_⟩
  exact WL
 have hli:((m+i:Nat):Int)<(s.length:Int):=a6
 obtain⟨d,hdd⟩:=getq hlt2
 have hd2:s.drop (m+i)=d::s.drop (m+i+1):=by rw[y9 hlt2];congr 1;rw[w8 hlt2] at hdd;exact E3 hdd
 by_cases hd10:d=10
 ·have i4:(d.toNat:Int)=10:=by rw[hd10];rfl
  rw[hd2,M3 (by simp[hd10])] at hie
  simp only[j7] at hie
  simp only[go_sem,q0,q1,hli,hq0,hdd,i4]
  refine fu a6 ⟨j,m+i,a6,a6,a6,hend a6,?_⟩
  exact WL
 ·have i4:¬(d.toNat:Int)=10:=fun h=>hd10 (L4.1 (by simpa using(by omega:d.toNat=10)))
  rw[hd2,I9 (by simpa using hd10),j6] at hie
  simp only[go_sem,q0,q1,hli,hq0,hdd,i4,hw2]
  refine fu a6 ⟨a6,by rw[show m+(i+1)=m+i+1 from rfl];omega,?_⟩
  simp only[go_sem,q0,q1]
  rfl
end
section
attribute [local congr] Go.Am.ite_cc
open Go Go.Am Go.Asm
open Go.Src (iZ)
theorem IJ:aA Tryz.prog 89 [] (· = mz iZ):=by
 refine hdP Tryz.func89 rfl [0] fun g=>?_
 simp only[go_sem]
 exact⟨_,⟨_,tw (L:=iZ) rfl rfl rfl,rfl⟩,rfl⟩
theorem wK {P:UInt8→Bool}:∀(l:Str),(l.takeWhile P).length<l.length→∃c,l[(l.takeWhile P).length]? = some c∧P c=false
 |[],h=>absurd h a7
 |a::l,h=>by
   cases hp:P a with
   |false=>rw[M3 (by simp[hp])];exact⟨a,rfl,hp⟩
   |true=>
     rw[I9 hp] at h ⊢
     obtain⟨c,h1,h2⟩:=wK l Yl
     exact⟨c,by simpa using h1,h2⟩
theorem Ai {P:UInt8→Bool}:∀(l:Str) (i:Nat),i<(l.takeWhile P).length→∃c,l[i]? = some c∧(l.takeWhile P)[i]? = some c∧P c=true
 |[],i,h=>absurd h a7
 |a::l,i,h=>by
   cases hp:P a with
   |false=>rw[M3 (by simp[hp])] at h;exact absurd h a7
   |true=>
     rw[I9 hp] at h ⊢
     cases i with
     |zero=>exact⟨a,rfl,rfl,hp⟩
     |succ i=>
       obtain⟨c,h1,h2,h3⟩:=Ai l i Yl
       exact⟨c,by simpa using h1,by simpa using h2,h3⟩
theorem FD (s:Str) (n:Nat) (hn:n≤s.length) (hs:s.length≤1000000):aA Tryz.prog 85 [sv s,iv .i64 n] (fun r=>∃(x:Nat) (b:Bool),r=.tup [iv .u64 x,iv .i64 (n+((s.drop n).takeWhile digit).length:Nat),bv b]∧b=decide (4294967295<fS ((s.drop n).takeWhile digit))∧(b=false→x=fS ((s.drop n).takeWhile digit))):=by
 refine hdR Tryz.func85 rfl [.tmp 4,.tmp 5,.tmp 6] fun g=>?_
 have hlen:((s.drop n).takeWhile digit).length≤s.length-n:=by
  have:=(G0 (p:=digit) (l:=s.drop n)).length_le
  rwa [A2] at this
 obtain⟨ds,hds⟩:∃ds,(s.drop n).takeWhile digit=ds:=⟨_,rfl⟩
 have hget:=Ai (P:=digit) (s.drop n)
 have hstop:=wK (P:=digit) (s.drop n)
 rw[hds] at hlen hget hstop ⊢
 simp only[go_sem]
 refine my (fun i st=>∃(x:Nat) (b:Bool),i≤ds.length∧x≤4294967295∧(b=false→x=fS (ds.take i))∧(b=true→4294967295<fS (ds.take i))∧st.f 0=sv s∧st.f 1=iv .i64 (n+i:Nat)∧st.f 7=iv .u64 x∧st.f 8=bv b) (s.length-n) ⟨0,false,a6,a6,fun _=>rfl,fun h=>YU,?_⟩ ?_
 ·exact UO
 rintro i f g1 ob1 hi ⟨x,b,hid,hx,hb1,hb2,q0,q1,q7,q8⟩
 simp only at q0 q1 q7 q8
 have hq0:(0:Int)≤((n+i:Nat):Int):=a6
 by_cases hlt:n+i<s.length
 case neg=>
  have hli:¬((n+i:Nat):Int)<(s.length:Int):=a6
  obtain rfl:i=ds.length:=by
   refine F7 fun hne=>?_
   obtain⟨c,h1,_⟩:=hget i a6
   have:=(l0.1 h1).1
   rw[A2] at this
   omega
  rw[F3] at hb1 hb2
  simp only[go_sem,q0,q1,q7,q8,hli]
  refine⟨_,⟨_,⟨_,_,rfl,dv _,_,_,rfl,dv _,_,_,rfl,dv _,rfl⟩,rfl⟩,x,b,rfl,?_,hb1⟩
  cases b with
  |false=>have:=hb1 rfl;exact(x8 a6).symm
  |true=>exact(A6 (hb2 rfl)).symm
 have hli:((n+i:Nat):Int)<(s.length:Int):=a6
 obtain⟨c,hc⟩:=getq hlt
 have hcd:(s.drop n)[i]? = some c:=by rw[D8];exact hc
 simp only[go_sem,q0,q1,hli,hq0,hc]
 refine cP rfl (by simp only[go_sem];exact jG c) ?_
 rintro _ rfl
 cases hdc:digit c
 ·have hie:i=ds.length:=by
   refine F7 fun hne=>?_
   obtain⟨c',h1,_,h3⟩:=hget i a6
   rw[hcd] at h1
   cases h1
   rw[hdc] at h3
   cases h3
  subst hie
  rw[F3] at hb1 hb2
  simp only[go_sem,q0,q1,q7,q8]
  refine⟨_,⟨_,⟨_,_,rfl,dv _,_,_,rfl,dv _,_,_,rfl,dv _,rfl⟩,rfl⟩,x,b,rfl,?_,hb1⟩
  cases b with
  |false=>have:=hb1 rfl;exact(x8 a6).symm
  |true=>exact(A6 (hb2 rfl)).symm
 have hil:i<ds.length:=by
  refine F7 fun hne=>?_
  obtain rfl:i=ds.length:=a6
  obtain⟨c',h1,h3⟩:=hstop (by rw[A2];omega)
  rw[hcd] at h1
  cases h1
  rw[hdc] at h3
  cases h3
 obtain⟨c',h1,h2,_⟩:=hget i hil
 rw[hcd] at h1
 cases h1
 have hdt:=vd h2
 have hcn:48≤c.toNat∧c.toNat≤57:=nN.1 hdc
 have w1:IntKind.u8.wrap ((c.toNat:Int)-48)=((c.toNat-48:Nat):Int):=by rw[IntKind.wrap_u8];omega
 have w2:IntKind.u64.wrap ((x:Int)*10)=((x*10:Nat):Int):=by rw[IntKind.wrap_u64];omega
 have w3:IntKind.u64.wrap ((c.toNat-48:Nat):Int)=((c.toNat-48:Nat):Int):=by rw[IntKind.wrap_u64];omega
 have w4:IntKind.u64.wrap (((x*10:Nat):Int)+((c.toNat-48:Nat):Int))=((x*10+(c.toNat-48):Nat):Int):=by rw[IntKind.wrap_u64];omega
 have hw:=ae (k:=n+i) a6
 by_cases hgr:4294967295<x*10+(c.toNat-48)
 ·have hgi:(4294967295:Int)<((x*10+(c.toNat-48):Nat):Int):=a6
  simp only[go_sem,q0,q1,q7,q8,hq0,hli,hc,w1,w2,w3,w4,hgi,hw]
  refine fu a6 ⟨0,true,a6,a6,fun h=>YU,fun _=>?_,?_⟩
  ·cases b with
   |false=>have:=hb1 rfl;omega
   |true=>have:=hb2 rfl;omega
  ·simp only[go_sem,q0,q1]
   rfl
 ·have hgi:¬(4294967295:Int)<((x*10+(c.toNat-48):Nat):Int):=a6
  simp only[go_sem,q0,q1,q7,q8,hq0,hli,hc,w1,w2,w3,w4,hgi,hw]
  refine fu a6 ⟨x*10+(c.toNat-48),b,a6,a6,fun h=>?_,fun h=>?_,?_⟩
  ·have:=hb1 h;omega
  ·have:=hb2 h;omega
  ·simp only[go_sem,q0,q1,q8]
   rfl
end
section
attribute [local congr] Go.Am.ite_cc
open Go Go.Am Go.Asm
open Go.Src (iZ ep firstT)
def uk (n:Nat):Src.R (Nat×Str×Nat)→AV
 |.ok (k,t,v)=>.tup [gv ⟨k,t,v,n⟩,iv .i64 0]
 |.err e=>.tup [gv ⟨0,[],0,0⟩,iv .i64 (e:Nat)]
theorem dD {s:St}{k v e n:Nat}{t:Str}:oK s [.agg [.d (.int .i64 (k:Nat)),.d (.str t),.d (.int .u32 (v:Nat)),.d (.int .i64 (n:Nat))],iv .i64 (e:Nat)] (.tup [gv ⟨k,t,v,n⟩,iv .i64 (e:Nat)]):=by
 refine⟨_,⟨_,_,rfl,⟨[.int .i64 (k:Nat),.str t,.int .u32 (v:Nat),.int .i64 (n:Nat)],rfl,fun i c hc'=>?_,rfl⟩,_,_,rfl,dv _,rfl⟩,rfl⟩
 match i,hc' with
 |0,hc'=>cases hc';exact⟨_,rfl,.d _⟩
 |1,hc'=>cases hc';exact⟨_,rfl,.d _⟩
 |2,hc'=>cases hc';exact⟨_,rfl,.d _⟩
 |3,hc'=>cases hc';exact⟨_,rfl,.d _⟩
theorem AJ (s:Str) (n:Nat) (c:UInt8) (hc:s[n]? = some c) (hn:n<s.length) (hs:s.length≤1000000) (hdc:digit c=true) {x:Src.R (Nat×Str×Nat)} (hx:firstT (s.drop n)=x):aA Tryz.prog 45 [sv s,iv .i64 n] (· = uk n x):=by
 rw[drop_cons hc,gg,if_pos hdc,←drop_cons hc] at hx
 refine hdR Tryz.func45 rfl [.cell 4 104,.tmp 5] fun g=>?_
 have hn0:(0:Int)≤(n:Int):=a6
 have hD:=jG c
 rw[hdc] at hD
 simp only[go_sem,hc,hn0]
 refine cP rfl X6 ?_
 rintro _ rfl
 have hlen:((s.drop n).takeWhile digit).length≤s.length-n:=by
  have:=(G0 (p:=digit) (l:=s.drop n)).length_le
  rwa [A2] at this
 have htk:((s.drop n).takeWhile digit)=(s.drop n).take ((s.drop n).takeWhile digit).length:=(N8.1 (T6 _))
 have hN:=FD s n a6 hs
 obtain⟨ds,hds⟩:∃ds,(s.drop n).takeWhile digit=ds:=⟨_,rfl⟩
 rw[hds] at hx hlen htk hN
 simp only[go_sem]
 refine cP rfl Zg ?_
 rintro _ ⟨y,b,rfl,hb,hy⟩
 cases b with
 |true=>
   rw[if_pos (L7 hb.symm)] at hx
   subst hx
   simp only[go_sem]
   exact⟨_,dD (k:=0) (v:=0) (e:=2) (n:=0),rfl⟩
 |false=>
   have hle:=of_decide_eq_false hb.symm
   rw[if_neg hle] at hx
   subst hx
   obtain rfl:=hy rfl
   have w1:IntKind.u32.wrap ((fS ds:Nat):Int)=((fS ds:Nat):Int):=by rw[IntKind.wrap_u32];omega
   have hcut:(s.take (n+ds.length)).drop n=ds:=by rw[O2,I7];exact htk.symm
   simp only[go_sem,w1,hcut]
   exact⟨a6,a6,_,dD (k:=2) (e:=0),rfl⟩
theorem De (s:Str) (n:Nat) (hc:s[n]? = some 39) (hn:n<s.length) (hs:s.length≤1000000) {z:Src.R (Nat×Str×Nat)} (hz:firstT (s.drop n)=z):aA Tryz.prog 45 [sv s,iv .i64 n] (· = uk n z):=by
 rw[drop_cons hc,gg,if_neg a8,if_pos rfl] at hz
 refine hdR Tryz.func45 rfl [.cell 4 104,.tmp 5] fun g=>?_
 have hn0:(0:Int)≤(n:Int):=a6
 have hD:=jG 39
 rw[show digit 39=false from rfl] at hD
 have hi:(((39:UInt8).toNat:Nat):Int)=39:=rfl
 have w1:IntKind.i64.wrap ((n:Int)+1)=((n+1:Nat):Int):=by rw[wrap_i64] <;> omega
 have w2:IntKind.i64.wrap ((n:Int)+2)=((n+2:Nat):Int):=by rw[wrap_i64] <;> omega
 have w3:IntKind.i64.wrap ((n:Int)+3)=((n+3:Nat):Int):=by rw[wrap_i64] <;> omega
 have p1:(0:Int)≤((n+1:Nat):Int):=a6
 have p2:(0:Int)≤((n+2:Nat):Int):=a6
 simp only[go_sem,hc,hn0]
 refine cP rfl X6 ?_
 rintro _ rfl
 by_cases h2:n+2<s.length
 case neg=>
  have h2i:¬((n+2:Nat):Int)<(s.length:Int):=a6
  have hb:z=.err 3:=by
   rw[←hz]
   match hr:s.drop (n+1) with
   |[]=>rfl
   |[_]=>rfl
   |_::_::_=>have:=congrArg List.length hr;simp at this;omega
  subst hb
  simp only[go_sem,hi,w2,h2i]
  exact VN
 have h2i:((n+2:Nat):Int)<(s.length:Int):=a6
 obtain⟨x,hx⟩:=getq (l:=s) (k:=n+1) a6
 obtain⟨y,hy⟩:=getq h2
 rw[drop_cons hx,drop_cons hy] at hz
 rw[show pZ (39::x::y::s.drop (n+2+1))=(if y=39∧32≤x.toNat∧x.toNat≤126∧x≠39∧x≠92 then .ok (2,[39,x,y],x.toNat) else .err 3) from rfl] at hz
 have hcut:(s.take (n+3)).drop n=[39,x,y]:=by
  rw[O2,show n+3-n=3 by omega,drop_cons hc,drop_cons hx,drop_cons hy];rfl
 by_cases e1:y=39
 case neg=>
  have e1i:¬((y.toNat:Nat):Int)=39:=jR (d:=39) e1
  rw[if_neg (fun h=>e1 h.1)] at hz
  subst hz
  simp only[go_sem,hi,w2,h2i,hy,p2,e1i]
  exact VN
 have e1i:((y.toNat:Nat):Int)=39:=by rw[e1];rfl
 by_cases e2:32≤x.toNat
 case neg=>
  have e2i:¬(32:Int)≤((x.toNat:Nat):Int):=a6
  rw[if_neg (fun h=>e2 h.2.1)] at hz
  subst hz
  simp only[go_sem,hi,w1,w2,h2i,hx,hy,p1,p2,e1i,e2i]
  exact VN
 have e2i:(32:Int)≤((x.toNat:Nat):Int):=a6
 by_cases e3:x.toNat≤126
 case neg=>
  have e3i:¬((x.toNat:Nat):Int)≤126:=a6
  rw[if_neg (fun h=>e3 h.2.2.1)] at hz
  subst hz
  simp only[go_sem,hi,w1,w2,h2i,hx,hy,p1,p2,e1i,e2i,e3i]
  exact VN
 have e3i:((x.toNat:Nat):Int)≤126:=a6
 by_cases e4:x=39
 ·have e4i:((x.toNat:Nat):Int)=39:=by rw[e4];rfl
  rw[if_neg (fun h=>h.2.2.2.1 e4)] at hz
  subst hz
  simp only[go_sem,hi,w1,w2,h2i,hx,hy,p1,p2,e1i,e2i,e3i,e4i]
  exact VN
 have e4i:¬((x.toNat:Nat):Int)=39:=jR (d:=39) e4
 by_cases e5:x=92
 ·have e5i:((x.toNat:Nat):Int)=92:=by rw[e5];rfl
  rw[if_neg (fun h=>h.2.2.2.2 e5)] at hz
  subst hz
  simp only[go_sem,hi,w1,w2,h2i,hx,hy,p1,p2,e1i,e2i,e3i,e4i,e5i]
  exact VN
 have e5i:¬((x.toNat:Nat):Int)=92:=jR (d:=92) e5
 rw[if_pos ⟨e1,e2,e3,e4,e5⟩] at hz
 subst hz
 have w5:IntKind.u32.wrap ((x.toNat:Nat):Int)=((x.toNat:Nat):Int):=by have:=x.toNat_lt;rw[IntKind.wrap_u32];omega
 simp only[go_sem,hi,w1,w2,h2i,hx,hy,p1,p2,e1i,e2i,e3i,e4i,e5i]
 refine bP b9 ?_
 simp only[go_sem,w1,w3,hx,p1,w5,hcut]
 exact⟨a6,a6,_,dD (k:=2) (e:=0),rfl⟩
theorem Df {o:cO} (s:Str) (n:Nat) (c:UInt8) (hc:s[n]? = some c) (hn:n<s.length) (hs:s.length≤1000000) (hdc:digit c=false) (h39:c≠39) (hlc:letter c=true) {z:Src.R (Nat×Str×Nat)} (hz:firstT (s.drop n)=z):bW Tryz.prog 3 o 45 [sv s,iv .i64 n] (· = uk n z):=by
 rw[drop_cons hc,gg,if_neg (by simp[hdc]),if_neg h39,if_pos hlc,←drop_cons hc] at hz
 refine hdG Tryz.func45 rfl [.cell 4 104,.tmp 5] fun b₀ β0 s0 w0 g=>?_
 have hn0:(0:Int)≤(n:Int):=a6
 have hD:=jG c
 rw[hdc] at hD
 have hL:=kg c
 rw[hlc] at hL
 have hi:¬((c.toNat:Nat):Int)=39:=jR (d:=39) h39
 have hget:=Ai (P:=cM) (s.drop n)
 have hstop:=wK (P:=cM) (s.drop n)
 have hlen:((s.drop n).takeWhile cM).length≤s.length-n:=by
  have:=(G0 (p:=cM) (l:=s.drop n)).length_le
  rwa [A2] at this
 have htk:((s.drop n).takeWhile cM)=(s.drop n).take ((s.drop n).takeWhile cM).length:=(N8.1 (T6 _))
 obtain⟨ds,hds⟩:∃ds,(s.drop n).takeWhile cM=ds:=⟨_,rfl⟩
 rw[hds] at hz hget hstop hlen htk
 have hcut:(s.take (n+ds.length)).drop n=ds:=by rw[O2,I7];exact htk.symm
 simp only[go_sem,hc,hn0]
 refine gU rfl X6 ?_
 rintro _ rfl
 simp only[go_sem,hi]
 refine gU rfl Yv ?_
 rintro _ rfl
 simp only[go_sem]
 refine ai (fun m st=>∃i:Nat,m+i=ds.length∧st.f 0=sv s∧st.f 1=iv .i64 n∧st.f 10=iv .i64 (n+i:Nat)∧st.f 4=.one (.ptr 4 (nxC 105 (g 4)) 0)∧st.gen 4=nxC 105 (g 4)∧st.obj 4=some [.d (.int .i64 0),.d (.str []),.d (.int .u32 0),.d (.int .i64 0)]) ds.length ⟨0,rfl,?_⟩ ?_
 ·exact UO
 rintro m f g' ob ⟨i,hm,q0,q1,q10,q4,g4,o4⟩
 simp only at q0 q1 q10 q4 g4 o4
 have hw:=ae (k:=n+i) a6
 have hp0:(0:Int)≤((n+i:Nat):Int):=a6
 have hend:i=ds.length→False∨True:=fun _=>.inr l7
 by_cases hil:i<ds.length
 ·obtain⟨y,h1,h2,h3⟩:=hget i hil
  rw[D8] at h1
  have hlti:((n+i:Nat):Int)<(s.length:Int):=a6
  simp only[go_sem,q0,q1,q10,hlti,h1,hp0]
  refine gU rfl (by simp only[go_sem];exact kg y) ?_
  rintro _ rfl
  cases hly:letter y
  ·simp only[go_sem,q0,q10,h1,hp0]
   refine gU rfl (by simp only[go_sem];exact jG y) ?_
   rintro _ rfl
   cases hdy:digit y
   ·have h95:(y.toNat:Int)=95:=by
     have:y=95:=by unfold cM at h3;simpa[hly,hdy] using h3
     rw[this];rfl
    simp only[go_sem,q0,q10,h1,hp0,h95,hw]
    refine ac (m-1) a6 ⟨i+1,a6,?_⟩
    simp only[go_sem,q0,q1,q4,g4,o4]
    rfl
   ·simp only[go_sem,q0,q10,h1,hp0,hw]
    refine ac (m-1) a6 ⟨i+1,a6,?_⟩
    simp only[go_sem,q0,q1,q4,g4,o4]
    rfl
  ·simp only[go_sem,q0,q10,h1,hp0,hw]
   refine ac (m-1) a6 ⟨i+1,a6,?_⟩
   simp only[go_sem,q0,q1,q4,g4,o4]
   rfl
 obtain rfl:i=ds.length:=a6
 have hsub:IntKind.i64.wrap (((n+ds.length:Nat):Int)-(n:Int))=(ds.length:Int):=by rw[wrap_i64] <;> omega
 unfold qa at hz
 by_cases hlt:n+ds.length<s.length
 case' neg=>
  have hlti:¬((n+ds.length:Nat):Int)<(s.length:Int):=a6
  simp only[go_sem,q0,q10,hlti]
 case' pos=>
  have hlti:((n+ds.length:Nat):Int)<(s.length:Int):=a6
  obtain⟨y,h1,h3⟩:=hstop (by rw[A2];omega)
  rw[D8] at h1
  unfold cM at h3
  have h3':(letter y=false∧digit y=false)∧y≠95:=by
   clear hget hstop
   simpa using h3
  obtain⟨⟨hly,hdy⟩,h95n⟩:=h3'
  have h95:¬(y.toNat:Int)=95:=jR (d:=95) h95n
  have hLy:=kg y
  have hDy:=jG y
  rw[hly] at hLy
  rw[hdy] at hDy
  simp only[go_sem,q0,q1,q10,hlti,h1,hp0]
  refine gU rfl (by simp only[go_sem];exact hLy) ?_
  rintro _ rfl
  simp only[go_sem,q0,q10,h1,hp0]
  refine gU rfl (by simp only[go_sem];exact hDy) ?_
  rintro _ rfl
  simp only[go_sem,q0,q10,h1,hp0,h95]
 all_goals
  by_cases h20:20<ds.length
  ·have h20i:(20:Int)<(ds.length:Int):=a6
   rw[if_pos h20] at hz
   subst hz
   simp only[go_sem,q1,q10,hsub,h20i,q4,g4,o4]
   exact⟨_,dD (k:=0) (v:=0) (e:=2) (n:=0),rfl⟩
  have h20i:¬(20:Int)<(ds.length:Int):=a6
  rw[if_neg h20] at hz
  simp only[go_sem,q1,q10,hsub,h20i]
  refine gq aU mixed aW [] [([],[],[],false),([0],[],[],false),([1],[],[],false),([10],[],[],false),([123,124,125],[],[],false),([122,126],[],[],true)] 0 rfl b9 rfl a8 ?_
  simp only[go_sem]
  refine aO (v:=mz ep) l7 (fun fa ga oa K' hK=>?_) ?_
  ·simp only[go_sem] at hK ⊢
   refine gU rfl (by simp only[go_sem];exact yr) ?_
   exact Wx
  iterate 3 (apply aO;(case hg=>first|exact l7|exact⟨_,rfl,by decide,rfl⟩);(case h1=>intro fa ga oa K' hK;simp only[go_sem,q0,q1,q10] at hK ⊢;exact hK))
  refine aO (v:=sv ds) l7 (fun fa ga oa K' hK=>?_) ?_
  ·simp only[go_sem,hcut] at hK ⊢
   exact⟨a6,a6,hK⟩
  refine gt l7 ?_
  intro K' hK'
  simp only[go_sem]
  refine gU rfl (by simp only[go_sem];exact Rb ep ds a8) ?_
  rintro _ rfl
  simp only[go_sem]
  refine hK' _ ?_
  clear hK' K'
  by_cases hin:ds∈ep
  ·rw[if_pos hin] at hz
   subst hz
   simp only[go_sem,hin,P0,q0,q1,q10,hcut,q4,g4,o4]
   exact⟨a6,a6,_,dD (k:=3) (v:=0) (e:=0),rfl⟩
  ·rw[if_neg hin] at hz
   subst hz
   simp only[go_sem,hin,I2,q0,q1,q10,hcut,q4,g4,o4]
   exact⟨a6,a6,_,dD (k:=1) (v:=0) (e:=0),rfl⟩
theorem Dg (s:Str) (n:Nat) (c:UInt8) (hc:s[n]? = some c) (hn:n<s.length) (hs:s.length≤1000000) (hdc:digit c=false) (h39:c≠39) (hlc:letter c=false) {z:Src.R (Nat×Str×Nat)} (hz:firstT (s.drop n)=z):aA Tryz.prog 45 [sv s,iv .i64 n] (· = uk n z):=by
 rw[drop_cons hc,gg,if_neg (by simp[hdc]),if_neg h39,if_neg (by simp[hlc]),←drop_cons hc] at hz
 refine hdR Tryz.func45 rfl [.cell 4 104,.tmp 5] fun g=>?_
 have hn0:(0:Int)≤(n:Int):=a6
 have hD:=jG c
 rw[hdc] at hD
 have hL:=kg c
 rw[hlc] at hL
 have hi:¬((c.toNat:Nat):Int)=39:=jR (d:=39) h39
 have h24:((iZ.length:Nat):Int)=24:=rfl
 have hall:∀t∈iZ,t.length≤1000000:=a8
 obtain⟨P,hP⟩:∃P:Str→Bool,(fun t=>t.isPrefixOf (s.drop n))=P:=⟨_,rfl⟩
 rw[hP] at hz
 have hPt:=fun t=>congrFun hP t
 simp only[go_sem,hc,hn0]
 refine cP rfl X6 ?_
 rintro _ rfl
 simp only[go_sem,hi]
 refine cP rfl Yv ?_
 rintro _ rfl
 simp only[go_sem]
 refine cP rfl (by simp only[go_sem];exact IJ) ?_
 rintro _ rfl
 unfold mz
 simp only[go_sem]
 refine my (fun k st=>FL ((iZ.drop k).find? P)=z∧st.f 0=sv s∧st.f 1=iv .i64 n∧st.f 11=.one (.d (.sl (iZ.map fun s=>[.str s])))∧st.f 12=iv .i64 k∧st.f 4=.one (.ptr 4 (nxC 105 (g 4)) 0)∧st.gen 4=nxC 105 (g 4)∧st.obj 4=some [.d (.int .i64 0),.d (.str []),.d (.int .u32 0),.d (.int .i64 0)]) 24 ⟨hz,?_⟩ ?_
 ·exact UO
 rintro k f g1 ob1 hk ⟨hf,q0,q1,q11,q12,q4,g4,o4⟩
 simp only at hf q0 q1 q11 q12 q4 g4 o4
 have hw:=ae (k:=k) a6
 by_cases hlt:k<24
 case neg=>
  have hki:¬(k:Int)<24:=a6
  rw[A1 (by show 24≤k;omega)] at hf
  subst hf
  simp only[go_sem,q11,q12,hki,j4,h24,q4,g4,o4]
  exact VN
 have hki:(k:Int)<24:=a6
 obtain⟨t,ht⟩:=getq (l:=iZ) (k:=k) hlt
 have hg:=getD_at (f:=fun s:Str=>[D.str s]) ht
 have hB:=yw s t n a6 hs (hall t (l4 ht))
 rw[hPt t] at hB
 rw[drop_cons ht,List.find?_cons] at hf
 simp only[go_sem,q0,q1,q11,q12,hki,j4,h24,hg]
 refine cP rfl Zc ?_
 rintro _ rfl
 cases hp:P t
 ·rw[hp] at hf
  simp only[go_sem,q12,hw]
  refine fu hlt ⟨hf,?_⟩
  simp only[go_sem,q0,q1,q11,q4,g4,o4]
 ·rw[hp] at hf
  subst hf
  simp only[go_sem,q0,q1,q11,q12,hki,j4,h24,hg,q4,g4,o4]
  exact⟨_,dD (k:=4) (v:=0) (e:=0),rfl⟩
theorem Nb {o:cO} (s:Str) (n:Nat) (hn:n<s.length) (hs:s.length≤1000000):bW Tryz.prog 3 o 45 [sv s,iv .i64 n] (· = uk n (firstT (s.drop n))):=by
 obtain⟨c,hc⟩:=getq hn
 cases hd:digit c with
 |true=>exact(AJ s n c hc hn hs hd rfl).toG
 |false=>
   by_cases h39:c=39
   ·subst h39;exact(De s n hc hn hs rfl).toG
   ·cases hl:letter c with
    |true=>exact Df s n c hc hn hs hd h39 hl rfl
    |false=>exact(Dg s n c hc hn hs hd h39 hl rfl).toG
end
section
attribute [local congr] Go.Am.ite_cc
open Go Go.Am Go.Asm
open Go.Src (iZ ep firstT eu ie)
theorem mm:∀(j m k:Nat) (s:Str),s.length<m→∃m',(s.drop (eu j s)).length<m'∧ie m k s=ie m' (k+eu j s) (s.drop (eu j s))
 |0,m,k,s,h=>⟨m,by simpa[eu] using h,by simp[eu]⟩
 |j+1,m,k,[],h=>⟨m,by simpa[eu] using h,by simp[eu]⟩
 |j+1,m,k,c::r,h=>by
   obtain⟨m,rfl⟩:∃i,m=i+1:=⟨m-1,a6⟩
   simp only[j6] at h
   rw[eu]
   by_cases hb:c=32∨c=9∨c=10
   ·rw[if_pos hb]
    obtain⟨m',h1,h2⟩:=mm j m (k+1) r a6
    refine⟨m',by rw[J8];exact h1,?_⟩
    rw[ie,if_pos hb,h2,J8,B6 k 1,Q4 1]
   rw[if_neg hb]
   by_cases hc:c=47∧r.head? = some 47
   ·rw[if_pos hc]
    have hT:1≤((c::r).takeWhile (· != 10)).length:=by rw[F0,if_pos (by rw[hc.1];rfl)];simp
    obtain⟨m',h1,h2⟩:=mm j m (k+((c::r).takeWhile (· != 10)).length) ((c::r).dropWhile (· != 10)) (by rw[←cU,A2,j6];omega)
    generalize hd:eu j ((c::r).dropWhile (· != 10))=d at h1 h2 ⊢
    rw[←cU,J0,Q4 _ d] at h1
    refine⟨m',h1,?_⟩
    rw[ie,if_neg hb,if_pos hc,h2,←cU,J0,Q4 d,B6]
   ·rw[if_neg hc]
    exact⟨m+1,by simpa using h,a7⟩
def Stop (s:Str):Prop:=∀c r,s=c::r→¬(c=32∨c=9∨c=10)∧¬(c=47∧r.head? = some 47)
theorem oh:∀(j:Nat) (s:Str),s.length<j→Stop (s.drop (eu j s))
 |0,s,h=>by omega
 |j+1,[],h=>fun c r e=>by simp at e
 |j+1,c::r,h=>by
   simp only[j6] at h
   rw[eu]
   by_cases hb:c=32∨c=9∨c=10
   ·rw[if_pos hb,J8]
    exact oh j r a6
   rw[if_neg hb]
   by_cases hc:c=47∧r.head? = some 47
   ·rw[if_pos hc]
    have hT:1≤((c::r).takeWhile (· != 10)).length:=by rw[F0,if_pos (by rw[hc.1];rfl)];simp
    have h1:=oh j ((c::r).dropWhile (· != 10)) (by rw[←cU,A2,j6];omega)
    generalize hd:eu j ((c::r).dropWhile (· != 10))=d at h1 ⊢
    rwa [←cU,J0,Q4 _ d] at h1
   ·rw[if_neg hc]
    intro c' r' e
    simp only[B3,L1] at e
    rw[←e.1,←e.2]
    exact⟨hb,hc⟩
theorem ss:∀(j:Nat) (s:Str),eu j s≤s.length
 |0,s=>by simp[eu]
 |j+1,[]=>by simp[eu]
 |j+1,c::r=>by
   rw[eu]
   split
   ·have:=ss j r;simp only[j6];omega
   ·split
    ·have:=ss j ((c::r).dropWhile (· != 10))
     rw[←cU,A2] at this
     have h2:=(G0 (fun x:UInt8=>x != 10) (l:=c::r)).length_le
     rw[←cU]
     omega
    ·simp
theorem Dh {m k:Nat}{c:UInt8}{r:Str} (h:Stop (c::r)):ie (m+1) k (c::r)=match firstT (c::r) with
  |.err e=>(.err e,k)
  |.ok (kd,t,v)=>pi [⟨kd,t,v,k⟩] (ie m (k+t.length) ((c::r).drop t.length)):=by
 obtain⟨h1,h2⟩:=h c r rfl
 conv=>lhs;unfold ie
 rw[if_neg h1,if_neg h2]
 split
 ·rename_i h;rw[h]
 ·rename_i kd t v h
  rw[h]
  simp only
  rcases ie m (k+t.length) ((c::r).drop t.length) with⟨a,b⟩
  cases a <;> rfl
theorem Nc {o:cO} (s:Str):bW Tryz.prog 3 o 18 [sv s] (· = IQ (Src.qN s)):=by
 refine hdG Tryz.func18 rfl [.tmp 2,.tmp 3,.tmp 4] fun b₀ β0 s0 w0 g=>?_
 unfold Src.qN
 by_cases hbig:20000<s.length
 ·exact Xg
 have hbi:¬(20000:Int)<(s.length:Int):=a6
 rw[if_neg hbig]
 simp only[go_sem,hbi]
 refine gU rfl (by simp only[go_sem];exact FC s 0 a6 a6) ?_
 rintro _ rfl
 obtain⟨k0,hk0⟩:∃k0,eu (s.length+1) (s.drop 0)=k0:=⟨_,rfl⟩
 have hk0l:k0≤s.length:=by have:=ss (s.length+1) s;rw[B3] at hk0;omega
 rw[hk0,C2]
 simp only[go_sem]
 refine ai (fun n st=>∃(k:Nat) (m:Nat) (l:List Src.Tok),n+k=s.length∧(s.drop k).length<m∧ie (s.length+1) 0 s=pi l (ie m k (s.drop k))∧Stop (s.drop k)∧l.length≤k∧st.f 0=sv s∧st.f 6=iv .i64 k∧
  ((l=[]∧st.f 5=.one (.d .nsl))∨(l≠[]∧st.f 5=.one (.osl 31 (st.gen 31) 4 0 l.length)∧st.obj 31=some (qb l)))) (s.length-k0) ?_ ?_
 ·obtain⟨m',h1,h2⟩:=mm (s.length+1) (s.length+1) 0 s a6
  have h3:=oh (s.length+1) s a6
  rw[B3] at hk0
  rw[hk0] at h1 h2 h3
  rw[C2] at h2
  refine⟨k0,m',[],a6,h1,by rw[yD];exact h2,h3,a7,?_⟩
  simp only[go_sem]
  exact .inl trivial
 clear hk0 hk0l
 rintro n f g' ob ⟨k,m,l,hk,hm,hL,hst,hlk,q0,q6,q5⟩
 simp only at q0 q6 q5
 have hk0:(0:Int)≤(k:Int):=a6
 by_cases hlt:k<s.length
 case neg=>
  have hlti:¬(k:Int)<(s.length:Int):=a6
  rw[A1 a6] at hL
  obtain⟨m',rfl⟩:∃m',m=m'+1:=⟨m-1,a6⟩
  rw[hL]
  have hend:∀k,pi l (ie (m'+1) k [])=(.ok l,0):=fun k=>by unfold ie pi;simp
  exact U5
 have hlti:(k:Int)<(s.length:Int):=a6
 obtain⟨c,hc⟩:=getq hlt
 have hdrop:=drop_cons hc
 obtain⟨m',rfl⟩:∃m',m=m'+1:=⟨m-1,a6⟩
 have hml:(s.drop (k+1)).length<m':=by rw[hdrop] at hm;simp only[j6] at hm;omega
 rw[hdrop] at hst
 rw[hdrop,Dh hst,←hdrop] at hL
 simp only[go_sem,q0,q6,hlti]
 refine cQ rfl (by simp only[go_sem];exact Nb s k hlt a6) ?_
 rintro _ rfl
 cases hf:firstT (s.drop k) with
 |err e=>
   have he:e=2∨e=3:=tR (by rw[hdrop];simp) hf
   have hei:¬(e:Int)=0:=a6
   rw[hf] at hL
   simp only[pi] at hL
   rw[hL]
   unfold uk gv gK
   simp only[go_sem,l6,v7,hei,q6]
   exact VR
 |ok x=>
   obtain⟨kd,t,v⟩:=x
   obtain⟨t1,t2,t3,t4⟩:=tQ hf
   rw[hf] at hL
   simp only at hL
   rw[J0,←vt] at hL
   have hdl2:(s.drop k).length=s.length-k:=A2
   have hdl3:(s.drop (k+t.length)).length=s.length-(k+t.length):=A2
   have hw2:IntKind.i64.wrap ((k:Int)+(t.length:Int))=((k+t.length:Nat):Int):=by rw[wrap_i64] <;> omega
   obtain⟨m2,h1,h2⟩:=mm (s.length+1) m' (k+t.length) (s.drop (k+t.length)) (by rw[hdl3];rw[A2] at hml;omega)
   have h3:=oh (s.length+1) (s.drop (k+t.length)) a6
   have h4:=ss (s.length+1) (s.drop (k+t.length))
   have hpass:=FC s (k+t.length) a6 a6
   rw[h2] at hL
   rw[J0] at hL h1 h3
   obtain⟨k2,hk2⟩:∃k2,k+t.length+eu (s.length+1) (s.drop (k+t.length))=k2:=⟨_,rfl⟩
   rw[hk2] at hL h1 h3 hpass
   unfold uk gv gK
   rcases q5 with⟨rfl,q5⟩|⟨hne,q5,o5⟩
   ·simp only[go_sem,l6,v7,q0,q6,q5,aD,hw2]
    refine⟨⟨a8,a8⟩,?_⟩
    refine gU rfl (by simp only[go_sem,q0];exact hpass) ?_
    rintro _ rfl
    simp only[go_sem]
    refine ac (s.length-k2) a6 ⟨k2,m2,[⟨kd,t,v,k⟩],a6,h1,hL,h3,by simp;omega,?_⟩
    simp only[go_sem,q0]
    first|exact .inr rfl|exact .inr ⟨by simp,rfl⟩|exact .inr ⟨by simp,rfl,rfl⟩
   ·have htc:=qM l
    simp only[go_sem,l6,v7,q0,q6,q5,o5,aD,hw2]
    refine⟨a6,⟨a8,a6⟩,?_⟩
    refine gU rfl (by simp only[go_sem,q0];exact hpass) ?_
    rintro _ rfl
    simp only[go_sem]
    refine ac (s.length-k2) a6 ⟨k2,m2,l++[⟨kd,t,v,k⟩],a6,h1,hL,h3,by simp;omega,?_⟩
    simp only[go_sem,q0]
    refine .inr ⟨a7,a7,?_⟩
    rw[tP,l5 a6]
    rfl
end
end Go.Proofs.YthnomjfdcidgbaaGreatDoor
namespace Go.Src
section
open Go.Asm (Str digit letter cM fS)
section
def PR.Sz {α:Type} (sz:α→Nat) (x n:Nat) (p:PR α):Prop:=∀a m,p=.ok a m→sz a+n≤x+m
theorem PR.bind_sz {α β:Type}{sa:α→Nat}{sb:β→Nat}{x y n:Nat}{p:PR α}{f:α→Nat→PR β} (h:p.Sz sa x n) (h':∀a m,(f a m).Sz sb (sa a+y) m):(p.bind f).Sz sb (x+y) n:=by
 intro b m hb
 cases p with
 |ok a k=>
   have h1:=h a k rfl
   have h2:=h' a k b m hb
   omega
 |no k=>cases hb
variable {k n:Nat}{α:Type}{s:Str}{sa:α→Nat}
theorem PR.sz_no{x n m:Nat}:(PR.no m:PR α).Sz sa x n:=fun _ _ e=>by cases e
theorem PR.sz_ok{x n m:Nat}{a:α} (h:sa a+n≤x+m):(PR.ok a m).Sz sa x n:=fun b k e=>by cases e;exact h
theorem PR.Sz.of{x n y m:Nat}{p:PR α} (h:p.Sz sa x n) (hy:x+m≤y+n):p.Sz sa y m:=fun a k e=>by have:=h a k e;omega
def z0 {α:Type} (_:α):Nat:=0
theorem yT:∀(l m:List Ex),bH (l++m)=bH l+bH m
 |[],m=>by simp[bH]
 |e::l,m=>by simp only[A0,bH,yT l m];omega
theorem yU:∀(l m:List Stm),bu (l++m)=bu l+bu m
 |[],m=>by simp[bu]
 |e::l,m=>by simp only[A0,bu,yU l m];omega
section
variable {ts:List Tok}
theorem lC:(takeN ts k n).Sz (fun _=>1) 0 n:=fun a m h=>by have:=cn a m h;show 1+n≤0+m;omega
theorem cJ {l:List Str}{n:Nat}:(bC ts l n).Sz (fun _=>0) 0 n:=fun a m h=>by have:=aI a m h;show 0+n≤0+m;omega
mutual
theorem ij:∀(k least n:Nat),(cA ts k least n).Sz szE 0 n
 |0,_,_=>by unfold cA;exact PR.sz_no
 |k+1,least,n=>by
   unfold cA
   exact PR.bind_sz (y:=0) (yW k n) fun a m=>yV k least a m
theorem yV:∀(k least:Nat) (left:Ex) (n:Nat),(fc ts k least left n).Sz szE (szE left) n
 |0,_,_,_=>by unfold fc;exact PR.sz_no
 |k+1,least,left,n=>by
   unfold fc
   split
   ·exact PR.sz_ok a6
   ·exact(PR.bind_sz (x:=0) (y:=szE left+1) (ij k _ (n+1)) fun b q=>(yV k least _ q).of Yh).of a6
theorem yW:∀(k n:Nat),(eq ts k n).Sz szE 0 n
 |0,_=>by unfold eq;exact PR.sz_no
 |k+1,n=>by
   unfold eq
   split
   ·exact PR.bind_sz (y:=0) lC fun a m=>PR.sz_ok Yh
   split
   ·exact(PR.bind_sz (x:=0) (y:=1) cJ fun a m=>PR.sz_ok Yh).of (m:=n) (y:=0) (n:=n+1) a6
   split
   ·exact(PR.bind_sz (x:=0) (y:=0) (ij k 1 (n+1)) fun a m=>(PR.bind_sz (x:=0) (y:=szE a) cJ fun b q=>PR.sz_ok (sa:=szE) a6).of a6).of (m:=n) (y:=0) (n:=n+1) a6
   split
   ·exact(PR.bind_sz (x:=0) (y:=1) (yW k (n+1)) fun a m=>PR.sz_ok Yh).of (m:=n) (y:=0) (n:=n+1) a6
   refine PR.bind_sz (x:=0) (y:=0) lC fun a m=>?_
   split
   ·exact(PR.bind_sz (x:=0) (y:=1) (ij k 1 (m+1)) fun a m=>(PR.bind_sz (x:=0) (y:=szE a+1) cJ fun b q=>PR.sz_ok Yh).of a6).of (n:=m+1) a6
   split
   ·exact(PR.bind_sz (x:=0) (y:=1) (yX k (m+1)) fun a m=>PR.sz_ok Yh).of (n:=m+1) a6
   ·exact PR.sz_ok Yh
theorem yX:∀(k n:Nat),(eL ts k n).Sz bH 0 n
 |0,_=>by unfold eL;exact PR.sz_no
 |k+1,n=>by
   unfold eL
   split
   ·exact PR.sz_ok (by simp only[bH];omega)
   ·exact PR.bind_sz (y:=0) (ij k 1 n) fun a m=>(yY k [a] m).of (by simp only[bH];omega)
theorem yY:∀(k:Nat) (l:List Ex) (n:Nat),(fd ts k l n).Sz bH (bH l) n
 |0,_,_=>by unfold fd;exact PR.sz_no
 |k+1,l,n=>by
   unfold fd
   split
   ·exact(PR.bind_sz (x:=0) (y:=bH l) (ij k 1 (n+1)) fun a m=>(yY k (l++[a]) m).of (by rw[yT];simp only[bH];omega)).of a6
   ·exact(PR.bind_sz (x:=0) (y:=bH l) cJ fun b q=>PR.sz_ok (sa:=bH) a6).of a6
end
theorem qS:(fJ ts k n).Sz bH 0 n:=
 PR.bind_sz (x:=0) (y:=0) cJ fun _ m=>(PR.bind_sz (x:=0) (y:=0) (ij k 1 m) fun e m=>(PR.bind_sz (x:=0) (y:=szE e) cJ fun _ _=>PR.sz_ok (by simp only[bH];omega)).of a6).of a6
theorem Dd:(eT ts k n).Sz szS 0 n:=by
 unfold eT
 refine PR.bind_sz (x:=0) (y:=0) lC fun t m=>((PR.bind_sz (x:=1) (y:=0) (sa:=szS) ?_ fun s q=>(PR.bind_sz (x:=0) (y:=szS s) cJ fun _ _=>PR.sz_ok (sa:=szS) a6).of (m:=q) a6).of (n:=m) (m:=m) a6)
 split
 ·exact(PR.bind_sz (x:=0) (y:=1) (ij k 1 (m+1)) fun _ _=>PR.sz_ok YI).of a6
 split
 ·exact(PR.bind_sz (x:=0) (y:=1) (ij k 1 (m+1)) fun i _=>(PR.bind_sz (x:=0) (y:=szE i+1) cJ fun _ q=>(PR.bind_sz (x:=0) (y:=szE i+1) (ij k 1 q) fun _ _=>PR.sz_ok YI).of a6).of a6).of a6
 split
 ·exact(PR.bind_sz (x:=0) (y:=1) (yX k (m+1)) fun _ _=>PR.sz_ok YR).of a6
 ·exact PR.sz_no
mutual
theorem Gm:∀(k n:Nat),(gy ts k n).Sz szS 0 n
 |0,_=>by unfold gy;exact PR.sz_no
 |k+1,n=>by
   unfold gy
   split
   ·exact(PR.bind_sz (x:=0) (y:=1) qS fun e _=>(PR.bind_sz (x:=0) (y:=bH e+1) cJ fun _ _=>PR.sz_ok YR).of a6).of (n:=n+1) a6
   split
   ·split
    ·exact PR.sz_ok YI
    ·exact(PR.bind_sz (x:=0) (y:=1) (ij k 1 (n+1)) fun e _=>(PR.bind_sz (x:=0) (y:=szE e+1) cJ fun _ _=>PR.sz_ok YI).of a6).of (n:=n+1) a6
   split
   ·refine(PR.bind_sz (x:=0) (y:=1) qS fun e m=>(PR.bind_sz (x:=0) (y:=bH e+1) (ue k m) fun th q=>?_).of a6).of (n:=n+1) a6
    split
    ·exact(PR.bind_sz (x:=0) (y:=bu th+bH e+1) (ue k (q+1)) fun _ _=>PR.sz_ok (by simp only[szS];omega)).of a6
    ·exact PR.sz_ok YR
   split
   ·exact(PR.bind_sz (x:=0) (y:=1) qS fun e m=>(PR.bind_sz (x:=0) (y:=bH e+1) (ue k m) fun _ _=>PR.sz_ok YR).of a6).of (n:=n+1) a6
   ·exact Dd
theorem ue:∀(k n:Nat),(fN ts k n).Sz bu 0 n
 |0,_=>by unfold fN;exact PR.sz_no
 |k+1,n=>by
   unfold fN
   exact PR.bind_sz (x:=0) (y:=0) cJ fun _ m=>(qT k [] m).of (by simp only[bu];omega)
theorem qT:∀(k:Nat) (l:List Stm) (n:Nat),(cB ts k l n).Sz bu (bu l) n
 |0,_,_=>by unfold cB;exact PR.sz_no
 |k+1,l,n=>by
   unfold cB
   split
   ·exact PR.sz_ok a6
   ·exact(PR.bind_sz (x:=0) (y:=bu l) (Gm k n) fun a m=>(qT k _ m).of (by rw[yU];simp only[bu];omega)).of a6
end
theorem yZ:∀{k:Nat}{l:List Fn}{n:Nat},(ji ts k l n).In ts.length n
 |0,_,_=>by unfold ji;exact PR.in_no
 |k+1,l,n=>by
   unfold ji
   split
   ·exact PR.bind_in BR fun _ _=>yZ
   ·exact PR.in_here
theorem Gn:(jI ts k n).In ts.length n:=PR.bind_in ud fun _ _=>PR.bind_in BR fun _ _=>PR.bind_in yZ fun _ _=>PR.in_here
theorem qU:(dr ts k n).Sz List.length 0 n:=fun a m h=>by have:=AE h;omega
theorem ug:∀{k:Nat}{l:List Str}{n:Nat},(cD ts k l n).Sz List.length l.length n
 |0,_,_=>by unfold cD;exact PR.sz_no
 |k+1,l,n=>by
   unfold cD
   split
   ·exact(PR.bind_sz (x:=0) (y:=l.length) (sa:=List.length) qU fun m q=>(PR.bind_sz (x:=0) (y:=m.length+l.length) cJ fun _ _=>ug.of (by simp only[j5];omega)).of (m:=q) a6).of (n:=n+1) a6
   ·exact PR.sz_ok a6
def szF (f:Fn):Nat:=f.params.length+f.locals.length+bu f.body
theorem BS:(ky ts k n).Sz (fun f=>szF f+1) 0 n:=by
 unfold ky
 refine PR.bind_sz (x:=0) (y:=0) cJ fun _ m=>(PR.bind_sz (x:=0) (y:=0) lC fun t m=>(PR.bind_sz (x:=0) (y:=1) cJ fun _ m=>(PR.bind_sz (x:=0) (y:=1) (sa:=List.length) ?_ fun ps m=>(PR.bind_sz (x:=0) (y:=ps.length+1) cJ fun _ m=>?_).of (n:=m) (m:=m) a6).of (n:=m) (m:=m) a6).of (m:=m) a6).of (m:=m) a6
 ·split
  ·exact qU
  ·exact PR.sz_ok (m:=m) a7
 ·have hb:∀v,((bC ts [[123]] v).bind fun _ m'=>(cD ts k [] m').bind fun ls m'=>(cB ts k [] m').bind fun b m'=>(PR.ok (Fn.mk t.text ps ls (decide (ah ts m=[119,111,114,100])) b) m')).Sz (fun f=>szF f+1) (ps.length+1) v:=fun v=>
   (PR.bind_sz (x:=0) (y:=ps.length+1) cJ fun _ m'=>(PR.bind_sz (x:=0) (y:=ps.length+1) (ug (l:=[])) fun ls m'=>(PR.bind_sz (x:=0) (y:=ls.length+ps.length+1) (qT k [] m') fun b m'=>PR.sz_ok (by simp only[szF];omega)).of (m:=m') a6).of (m:=m') a6).of a6
  split
  ·exact(hb (m+1)).of a6
  ·exact(hb m).of a6
theorem uh:∀{k:Nat}{l:List Str}{ars:List (Str×Int)}{n:Nat},(jh ts k l ars n).Sz (fun h=>h.1.length+h.2.length) (l.length+ars.length) n
 |0,_,_,_=>by unfold jh;exact PR.sz_no
 |k+1,l,ars,n=>by
   unfold jh
   split
   ·exact(PR.bind_sz (x:=0) (y:=l.length+ars.length) (sa:=List.length) qU fun m q=>(PR.bind_sz (x:=0) (y:=m.length+l.length+ars.length) cJ fun _ _=>uh.of (by simp only[j5];omega)).of (m:=q) a6).of (n:=n+1) a6
   split
   ·exact(PR.bind_sz (x:=0) (y:=l.length+ars.length) lC fun t m=>(PR.bind_sz (x:=0) (y:=l.length+ars.length+1) cJ fun _ m=>(PR.bind_sz (x:=0) (y:=l.length+ars.length+1) lC fun z m=>(PR.bind_sz (x:=0) (y:=l.length+ars.length+2) cJ fun _ m=>(PR.bind_sz (x:=0) (y:=l.length+ars.length+2) cJ fun _ m=>
     uh.of (m:=m) (by simp only[j5,L5];omega)).of (m:=m) a6).of (m:=m) a6).of (m:=m) a6).of (m:=m) a6).of (n:=n+1) a6
   ·exact PR.sz_ok XR
def wQ (l:List Fn):Nat:=l.length+(l.map szF).sum
theorem Gp (l:List Fn) (f:Fn):wQ (l++[f])=wQ l+szF f+1:=by simp[wQ];omega
theorem za:∀{k:Nat}{l:List Fn}{n:Nat},(ji ts k l n).Sz wQ (wQ l) n
 |0,_,_=>by unfold ji;exact PR.sz_no
 |k+1,l,n=>by
   unfold ji
   split
   ·exact(PR.bind_sz (x:=0) (y:=wQ l) BS fun f m=>za.of (m:=m) (by rw[Gp];omega)).of (m:=n) a6
   ·exact PR.sz_ok a6
def szP (p:Prog):Nat:=p.vars.length+p.arrays.length+wQ p.funcs
theorem Gq:(jI ts k n).Sz szP 0 n:=
 (PR.bind_sz (x:=0) (y:=0) uh fun h m=>(PR.bind_sz (x:=0) (y:=h.1.length+h.2.length) BS fun f m=>(PR.bind_sz (x:=szF f+1) (y:=h.1.length+h.2.length) (za.of (m:=m) (by simp[wQ];omega)) fun fs m=>PR.sz_ok (by simp only[szP];omega)).of (m:=m) a6).of (m:=m) a6).of (m:=n) a7
end
theorem AF{kd v:Nat}{t:Str} (h:firstT s=.ok (kd,t,v)):v≤4294967295:=by
 unfold firstT at h
 split at h
 ·cases h
 ·split at h
  ·split at h
   ·cases h
   ·cases h;omega
  split at h
  ·split at h
   ·split at h
    ·rename_i hx;cases h;omega
    ·cases h
   ·cases h
  split at h
  ·split at h
   ·cases h
   split at h <;> (cases h;omega)
  ·split at h
   ·cases h;omega
   ·cases h
theorem oe:∀{n k:Nat}{s:Str}{l:List Tok}{p:Nat},ie n k s=(.ok l,p)→l.length≤n∧∀t∈l,t.num≤4294967295
 |0,_,_,_,_,h=>by unfold ie at h;cases h;simp
 |_+1,_,[],_,_,h=>by unfold ie at h;cases h;simp
 |n+1,k,c::r,l,p,h=>by
   unfold ie at h
   split at h
   ·have:=oe h;exact⟨a6,this.2⟩
   split at h
   ·have:=oe h;exact⟨a6,this.2⟩
   split at h
   ·cases h
   ·rename_i kd t v hf
    split at h
    ·rename_i l' p' hl
     cases h
     have:=oe hl
     refine⟨by simp;omega,fun x hx=>?_⟩
     rcases y2.1 hx with rfl|hx
     ·exact AF hf
     ·exact this.2 x hx
    ·cases h
theorem Gr:(qN s).1.length≤20001∧∀t∈(qN s).1,t.num≤4294967295:=by
 unfold qN
 split
 ·simp
 ·split
  ·rename_i h
   have:=oe h
   exact⟨by simp only;omega,this.2⟩
  ·simp
def jC (ts:List Tok) (fin n:Nat):Nat:=match ts[n]? with|some t=>t.place|none=>fin
def Ul (s:Str):R Prog×Nat:=
 if (qN s).2.2≠0 then(.err (qN s).2.2,(qN s).2.1)
 else match jI (qN s).1 (4*(qN s).1.length+7) 0 with
  |.ok p m=>if m<(qN s).1.length then(.err 3,jC (qN s).1 s.length m) else(.ok p,0)
  |.no m=>(.err 3,jC (qN s).1 s.length m)
theorem KB{k m:Nat}{p:Prog} (h:jI (qN s).1 k 0=.ok p m):szP p≤20001:=by
 have h1:=Gq p m h
 have h2:m≤max 0 (qN s).1.length:=Gn p m h
 have h3:=Gr (s:=s)
 omega
end
end
end Go.Src

/- A part of the proof; no conditions. -/
import Derived.Test.YtgbcmokfgbmabaaGreatDoorRPart8
set_option linter.unusedSimpArgs false
set_option linter.unusedVariables false
set_option maxHeartbeats 64000000
set_option maxRecDepth 100000
namespace Go.Proofs.YtgbcmokfgbmabaaGreatDoorR
section
open Go Go.Am Go.Asm
open Go.Src (PR dC ay takeN bE Ex Stm cL gX eT fG gY)
section
variable {α:Type}{B:Nat}{g:Nat→Nat}
section
variable {b₀:Bs}{rd:Option Nat}{Φ:St→Am.Loc→List Deferred→World→Prop}{B0:Nat}{Ψ:fO}{o:Oper}{s:St}{K:St→Prop}{k:Box K}{args:Array Operand}{tys:Array TypeId}
theorem vy (ts:List Src.Tok) (n fin:Nat) (hΦ:aY b₀ Φ) (ho:o.op=.call ⟨.value (.func 190),args,tys⟩) (hx:args.toList.map s.ev=[.one (.ptr 125 (s.gen 125) 0)]) (hob:s.obj 125=some (rdC ts n fin)) (hk:K (s.put o.dst (iv .i64 (dC ts n:Nat)))):bj (spF Tryz.prog rd b₀ Φ B0 Ψ) o s k:=by
 refine kI hΦ ho (by rw[hx];exact Gb hob) ?_
 rintro _ g1 ob1 ⟨rfl,rfl,rfl⟩
 exact hk
theorem Dn (ts:List Src.Tok) (n fin:Nat) (hΦ:aY b₀ Φ) (ho:o.op=.call ⟨.value (.func 189),args,tys⟩) (hx:args.toList.map s.ev=[.one (.ptr 125 (s.gen 125) 0)]) (Bc:Nat) (hB:200≤Bc) (hfree:∀i,Bc≤i→s.obj i=none) (hob:s.obj 125=some (rdC ts n fin)) (hk:K (s.put o.dst (sv (ay ts n)))):bj (spF Tryz.prog rd b₀ Φ B0 Ψ) o s k:=by
 refine kI hΦ ho (by rw[hx];exact Al hB hfree hob) ?_
 rintro _ g1 ob1 ⟨rfl,rfl,rfl⟩
 exact hk
theorem bV (ts:List Src.Tok) (n fin:Nat) (str:Str) (hΦ:aY b₀ Φ) (ho:o.op=.call ⟨.value (.func 118),args,tys⟩) (hx:args.toList.map s.ev=[.one (.ptr 125 (s.gen 125) 0),sv str]) (Bc:Nat) (hB:200≤Bc) (hfree:∀i,Bc≤i→s.obj i=none) (hob:s.obj 125=some (rdC ts n fin)) (hn:n≤1000000)
  (hy:ay ts n=str→K (St.put ⟨s.f,s.gen,upd s.obj 125 (some (rdC ts (n+1) fin))⟩ o.dst (bv true))) (hz:ay ts n≠str→K (s.put o.dst (bv false))):bj (spF Tryz.prog rd b₀ Φ B0 Ψ) o s k:=by
 refine kI hΦ ho (by rw[hx];exact RN hB hfree hob hn str) ?_
 rintro _ g1 ob1 ⟨rfl,⟨h,rfl,rfl⟩|⟨h,rfl,rfl⟩⟩
 ·exact hy h
 ·exact hz h
theorem bK (ts:List Src.Tok) (n fin:Nat) (hΦ:aY b₀ Φ) (ho:o.op=.call ⟨.value (.func 121),args,tys⟩) (l:List Str) (j:Nat) (hx:args.toList.map s.ev=[.one (.ptr 125 (s.gen 125) 0),.one (.osl j (s.gen j) 1 0 l.length)]) (Bc:Nat) (hB:200≤Bc) (hfree:∀i,Bc≤i→s.obj i=none) (hob:s.obj 125=some (rdC ts n fin)) (hn:n+l.length≤1000000) (hj:j<Bc) (hj1:j≠125) (hjo:s.obj j=some (bP l))
{ob:Obs}{p':PR α} (hin:InF B g ob s.gen s.obj) (hno:∀m,bE ts l n=.no m→p'=.no m)
  (hk:∀m,bE ts l n=.ok () m→K (St.put ⟨s.f,s.gen,upd s.obj 125 (some (rdC ts m fin))⟩ o.dst uv)):bj (spF Tryz.prog rd b₀ Φ B0 (Ev B [125] g ob (NoR ts fin p' g ob))) o s k:=by
 refine bB (R:=OkR ts fin (bE ts l n) (fun _=>uv) s.gen s.obj) (Ψ0:=NoR ts fin (bE ts l n) s.gen s.obj) hΦ ho (by rw[hx];exact Nu l hB hfree hob hn hj hj1 hjo) ?_ ?_
 ·exact Yh
 ·rintro r g' ob' ⟨rfl,a,m,hp,rfl,rfl⟩
  exact hk m hp
theorem Do (ts:List Src.Tok) (n fin:Nat) (hΦ:aY b₀ Φ) (ho:o.op=.call ⟨.value (.func 117),args,tys⟩) (hx:args.toList.map s.ev=[.one (.ptr 125 (s.gen 125) 0)]) (hob:s.obj 125=some (rdC ts n fin))
{ob:Obs}{p':PR α} (hin:InF B g ob s.gen s.obj) (hno:p'=.no n):bj (spF Tryz.prog rd b₀ Φ B0 (Ev B [125] g ob (NoR ts fin p' g ob))) o s k:=by
 refine bB (R:=fun _ _ _=>False) (Ψ0:=fun ch g' ob'=>ch=tQ (kN ts fin n)∧g'=s.gen∧ob'=s.obj) hΦ ho (by rw[hx];exact wJ hob) ?_ (fun _ _ _ h=>h.elim)
 rintro ch g' ob' ⟨rfl,rfl,rfl⟩
 exact hin.pan hob hno rfl
end
instance:Inhabited Ex:=⟨.mk 0 0 0 [] []⟩
theorem look [Inhabited α] (p:PR α):∃a m,(∃a' m',p=.ok a' m')→p=.ok a m:=by
 cases p with
 |ok a m=>exact⟨a,m,fun _=>rfl⟩
 |no m=>exact⟨default,0,fun⟨_,_,h⟩=>by cases h⟩
theorem LI (p:PR α) {G:α→Prop} (a0:α) (h0:G a0) (h1:∀a m,p=.ok a m→G a):∃a m,G a∧((∃a' m',p=.ok a' m')→p=.ok a m):=by
 cases p with
 |ok a m=>exact⟨a,m,h1 a m rfl,fun _=>rfl⟩
 |no m=>exact⟨a0,0,h0,fun⟨_,_,h⟩=>by cases h⟩
theorem JB (s:Str):(Src.vL s).2.2≤9:=by
 have h:∀(c:Prop) [Decidable c] (x y:Int×Int×Nat),x.2.2≤9→y.2.2≤9→(if c then x else y).2.2≤9:=fun c _ x y hx hy=>by split <;> assumption
 unfold Src.vL
 repeat (refine h _ _ _ (by decide) ?_)
 decide
theorem Gn:(Src.vL []).2.2=0:=a8
mutual
def exD:Ex→List D
 |.mk kind op num name kids=>[.int .i64 kind,.int .i64 op,.int .u32 num,.str name,.sl (rY kids)]
def rY:List Ex→List (List D)
 |[]=>[]
 |e::l=>exD e::rY l
end
theorem aw:∀l:List Ex,rY l=l.map exD
 |[]=>by simp[rY]
 |e::l=>by simp[rY,aw l]
theorem cR (e:Ex):(exD e).length=5:=by cases e;simp[exD]
def exV (e:Ex):AV:=.agg ((exD e).map .d)
def dj (l:List Ex):AV:=.one (.d (.sl (l.map exD)))
def exC (l:List Ex):List C:=l.flatMap fun a=>(exD a).map .d
theorem JC (l:List Ex):(exC l).length=l.length*5:=by
 induction l with
 |nil=>rfl
 |cons a l ih=>simp only[exC,D3,j5,j4,cR,j6] at ih ⊢;omega
theorem nx (e:Ex):exC [e]=(exD e).map .d:=by simp[exC]
theorem JD (l m:List Ex):exC (l++m)=exC l++exC m:=by simp[exC]
theorem yp{s:St}{a b c d:D}{c5:C}{x5:D} (h:fJ (B≤·) s c5 x5):eO B s [.agg [.d a,.d b,.d c,.d d,c5]] [.agg [.d a,.d b,.d c,.d d,.d x5]]:=
 ⟨_,_,rfl,.agg (xs:=[a,b,c,d,x5]) rfl (fun i e he=>by
  match i,he with
  |0,he=>cases he;exact⟨_,rfl,.d _⟩
  |1,he=>cases he;exact⟨_,rfl,.d _⟩
  |2,he=>cases he;exact⟨_,rfl,.d _⟩
  |3,he=>cases he;exact⟨_,rfl,.d _⟩
  | 4,he=>cases he;exact⟨_,rfl,h⟩),rfl⟩
theorem ny {B id g n:Nat}{s:St}{l:List Ex} (hid:B≤id) (hg:s.gen id=g) (ho:s.obj id=some (exC l)) (hn:l.length=n):fJ (B≤·) s (.osl id g 5 0 n) (.sl (rY l)):=by
 rw[aw]
 exact eH hid hg l exD ho rfl (fun a _=>cR a) hn
end
end
section
attribute [local congr] Go.Am.ite_cc
open Go Go.Am Go.Asm
open Go.Src (PR dC ay takeN bE Ex Stm cL gX eT fG gY)
structure ExK (ts:List Src.Tok) (fin k:Nat):Prop where
 expr:∀(least n:Nat),1≤least→least≤100→n≤ts.length→4*(ts.length-n)+3≤k→eK 259 [iv .i64 least] ts n fin (cL ts k least n) exV
 atom:∀(n:Nat),n≤ts.length→4*(ts.length-n)+2≤k→eK 269 [] ts n fin (eT ts k n) exV
 args:∀(n:Nat),n≤ts.length→4*(ts.length-n)+4≤k→eK 271 [] ts n fin (fG ts k n) dj
theorem Ny {ts:List Src.Tok}{fin k n:Nat} (hl:ts.length≤100000) (ih:ExK ts fin k) (hnl:n≤ts.length) (hk:4*(ts.length-n)+2≤k+1):eK 269 [] ts n fin (eT ts (k+1) n) exV:=by
 intro B g ob hB hf ho
 refine hdM B [125] Tryz.func269 rfl [.cell 2 51] (by simp;omega) hf fun b₀ β0 s0 w0=>?_
 have n1:=nlo hB
 have n2:=nhi hB
 have hin:InF B g ob g ob:=InF.refl
 have hf1:=hf
 obtain⟨p,hp⟩:∃p,eT ts (k+1) n=p:=⟨_,rfl⟩
 rw[hp]
 rw[eT] at hp
 simp only[go_sem,n1,n2]
 refine vy ts n fin aa rfl (by simp only[go_sem,n1,n2]) (by simp only[go_sem,n1,n2,ho]) ?_
 by_cases h2:dC ts n=2
 ·rw[if_pos h2] at hp
  have h2i:(dC ts n:Int)=2:=a6
  simp only[go_sem,h2i]
  refine ar aa rfl (mQ ts n fin 2 a6 a8) (by simp only[go_sem,n1,n2];all_goals rfl) (B+57) a6 (fi hf1) (by simp only[go_sem,n1,n2,ho]) (InF.go hin) (fun m h=>by rw[←hp,h];rfl) ?_
  intro t m ht
  rw[ht,PR.bind_ok] at hp
  unfold nH lJ
  simp only[go_sem,n1,n2]
  refine⟨_,ag.refl _,?_⟩
  simp only[go_sem,n1,n2]
  exact InF.ret (n:=m) (a:=.mk 1 0 t.num [] []) (InF.go hin) (by simp only[go_sem,n1,n2]) hp.symm (yp .nil) (by simp[pack,exV,exD,rY])
 rw[if_neg h2] at hp
 have h2i:¬(dC ts n:Int)=2:=a6
 simp only[go_sem,h2i]
 refine bV ts n fin [103,101,116] aa rfl (by simp only[go_sem,n1,n2]) (B+57) a6 (fi hf1) (by simp only[go_sem,n1,n2,ho]) a6 (fun h=>?_) (fun h=>?_)
 ·rw[if_pos h] at hp
  have hlt:=Src.cC h a7
  simp only[go_sem,n1,n2]
  refine bK ts (n+1) fin aa rfl [[40],[41]] (B+17) (by simp only[go_sem,n1,n2];all_goals rfl) (B+57) a6 (fi hf1) (by simp only[go_sem,n1,n2]) (by simp;omega) a6 a6 (by simp only[go_sem,n1,n2,bP]) (InF.go hin) (fun m h=>by rw[←hp,show Src.kl=[40] from rfl,show Src.iN=[41] from rfl,h];rfl) ?_
  intro m hm
  rw[show Src.kl=[40] from rfl,show Src.iN=[41] from rfl,hm,PR.bind_ok] at hp
  simp only[go_sem,n1,n2]
  refine⟨_,ag.refl _,?_⟩
  simp only[go_sem,n1,n2]
  exact InF.ret (n:=m) (a:=.mk 5 0 0 [] []) (InF.go hin) (by simp only[go_sem,n1,n2]) hp.symm (yp .nil) (by simp[pack,exV,exD,rY])
 rw[if_neg h] at hp
 simp only[go_sem,n1,n2]
 refine bV ts n fin [40] aa rfl (by simp only[go_sem,n1,n2]) (B+57) a6 (fi hf1) (by simp only[go_sem,n1,n2,ho]) a6 (fun h=>?_) (fun h=>?_)
 ·rw[if_pos (show ay ts n=Src.kl from h)] at hp
  have hlt:=Src.cC h a7
  simp only[go_sem,n1,n2]
  refine ar aa rfl (ih.expr 1 (n+1) a6 a6 a6 a6) (by simp only[go_sem,n1,n2];all_goals rfl) (B+57) a6 (fi hf1) (by simp only[go_sem,n1,n2]) (InF.go hin) (fun m h=>by rw[←hp,h];rfl) ?_
  intro e m he
  rw[he,PR.bind_ok] at hp
  have hmn:=Src.fU k 1 (n+1) e m he
  obtain⟨ek,eo,en,es,ekd⟩:=e
  simp only[go_sem,n1,n2,exV,exD]
  refine bK ts m fin aa rfl [[41]] (B+26) (by simp only[go_sem,n1,n2];all_goals rfl) (B+57) a6 (fi hf1) (by simp only[go_sem,n1,n2]) (by simp;omega) a6 a6 (by simp only[go_sem,n1,n2,bP]) (InF.go hin) (fun m h=>by rw[←hp,show Src.iN=[41] from rfl,h];rfl) ?_
  intro m2 hm
  rw[show Src.iN=[41] from rfl,hm,PR.bind_ok] at hp
  simp only[go_sem,n1,n2]
  refine⟨_,ag.refl _,?_⟩
  simp only[go_sem,n1,n2]
  exact InF.ret (n:=m2) (a:=.mk ek eo en es ekd) (InF.go hin) (by simp only[go_sem,n1,n2]) hp.symm (yp (.d _)) (by simp[pack,exV,exD])
 rw[if_neg (show ¬ay ts n=Src.kl from h)] at hp
 simp only[go_sem,n1,n2]
 refine bV ts n fin [33] aa rfl (by simp only[go_sem,n1,n2]) (B+57) a6 (fi hf1) (by simp only[go_sem,n1,n2,ho]) a6 (fun h=>?_) (fun h=>?_)
 ·rw[if_pos h] at hp
  have hlt:=Src.cC h a7
  simp only[go_sem,n1,n2]
  refine ar aa rfl (ih.atom (n+1) a6 a6) (by simp only[go_sem,n1,n2];all_goals rfl) (B+57) a6 (fi hf1) (by simp only[go_sem,n1,n2]) (InF.go hin) (fun m h=>by rw[←hp,h];rfl) ?_
  intro e m he
  rw[he,PR.bind_ok] at hp
  simp only[go_sem,n1,n2,exV,cR,j4]
  refine⟨_,ag.refl _,?_⟩
  simp only[go_sem,n1,n2]
  exact InF.ret (n:=m) (a:=.mk 7 0 0 [] [e]) (InF.go hin) (by simp only[go_sem,n1,n2]) hp.symm (yp (ny (l:=[e]) a6 (by simp only[go_sem,n1,n2]) (by simp only[go_sem,n1,n2,nx]) rfl)) (by simp[pack,exV,exD])
 rw[if_neg h] at hp
 simp only[go_sem,n1,n2]
 refine ar aa rfl (mQ ts n fin 1 a6 a8) (by simp only[go_sem,n1,n2];all_goals rfl) (B+57) a6 (fi hf1) (by simp only[go_sem,n1,n2,ho]) (InF.go hin) (fun m h=>by rw[←hp,h];rfl) ?_
 intro t m ht
 rw[ht,PR.bind_ok] at hp
 have hm1:=Src.jg t m ht
 have hm2:=Src.fC t m ht
 unfold nH lJ
 simp only[go_sem,n1,n2]
 refine bV ts m fin [91] aa rfl (by simp only[go_sem,n1,n2]) (B+57) a6 (fi hf1) (by simp only[go_sem,n1,n2]) a6 (fun h=>?_) (fun h=>?_)
 ·rw[if_pos h] at hp
  have hlt:=Src.cC h a7
  simp only[go_sem,n1,n2]
  refine ar aa rfl (ih.expr 1 (m+1) a6 a6 a6 a6) (by simp only[go_sem,n1,n2];all_goals rfl) (B+57) a6 (fi hf1) (by simp only[go_sem,n1,n2]) (InF.go hin) (fun m h=>by rw[←hp,h];rfl) ?_
  intro e m2 he
  rw[he,PR.bind_ok] at hp
  have hmn:=Src.fU k 1 (m+1) e m2 he
  simp only[go_sem,n1,n2,exV,cR,j4]
  refine bK ts m2 fin aa rfl [[93]] (B+48) (by simp only[go_sem,n1,n2];all_goals rfl) (B+57) a6 (fi hf1) (by simp only[go_sem,n1,n2]) (by simp;omega) a6 a6 (by simp only[go_sem,n1,n2,bP]) (InF.go hin) (fun m h=>by rw[←hp,h];rfl) ?_
  intro m3 hm
  rw[hm,PR.bind_ok] at hp
  simp only[go_sem,n1,n2]
  refine⟨_,ag.refl _,?_⟩
  simp only[go_sem,n1,n2]
  exact InF.ret (n:=m3) (a:=.mk 3 0 0 t.text [e]) (InF.go hin) (by simp only[go_sem,n1,n2]) hp.symm (yp (ny (l:=[e]) a6 (by simp only[go_sem,n1,n2]) (by simp only[go_sem,n1,n2,nx]) rfl)) (by simp[pack,exV,exD])
 rw[if_neg h] at hp
 simp only[go_sem,n1,n2]
 refine bV ts m fin [40] aa rfl (by simp only[go_sem,n1,n2]) (B+57) a6 (fi hf1) (by simp only[go_sem,n1,n2]) a6 (fun h=>?_) (fun h=>?_)
 ·rw[if_pos (show ay ts m=Src.kl from h)] at hp
  have hlt:=Src.cC h a7
  simp only[go_sem,n1,n2]
  refine ar aa rfl (ih.args (m+1) a6 a6) (by simp only[go_sem,n1,n2];all_goals rfl) (B+57) a6 (fi hf1) (by simp only[go_sem,n1,n2]) (InF.go hin) (fun m h=>by rw[←hp,h];rfl) ?_
  intro l m2 he
  rw[he,PR.bind_ok] at hp
  simp only[go_sem,n1,n2,dj]
  refine⟨_,ag.refl _,?_⟩
  simp only[go_sem,n1,n2]
  exact InF.ret (n:=m2) (a:=.mk 4 0 0 t.text l) (InF.go hin) (by simp only[go_sem,n1,n2]) hp.symm (yp (.d _)) (by simp[pack,exV,exD,aw])
 rw[if_neg (show ¬ay ts m=Src.kl from h)] at hp
 simp only[go_sem,n1,n2]
 refine⟨_,ag.refl _,?_⟩
 simp only[go_sem,n1,n2]
 exact InF.ret (n:=m) (a:=.mk 2 0 0 t.text []) (InF.go hin) (by simp only[go_sem,n1,n2]) hp.symm (yp .nil) (by simp[pack,exV,exD,rY])
theorem BZ {B id g n:Nat}{s:St}{l:List Ex} (hid:B≤id) (hg:s.gen id=g) (ho:s.obj id=some (exC l)) (hn:l.length=n):eO B s [.one (.osl id g 5 0 n)] [dj l]:=
 ⟨_,_,rfl,.one (by have:=ny (B:=B) hid hg ho hn;rwa [aw] at this),rfl⟩
theorem Nz {ts:List Src.Tok}{fin k n:Nat} (hl:ts.length≤100000) (ih:∀j,j≤k→ExK ts fin j) (hnl:n≤ts.length) (hk:4*(ts.length-n)+4≤k+1):eK 271 [] ts n fin (fG ts (k+1) n) dj:=by
 intro B g ob hB hf ho
 refine hdM B [125] Tryz.func271 rfl [.tmp 2] (by simp;omega) hf fun b₀ β0 s0 w0=>?_
 have n1:=nlo hB
 have n2:=nhi hB
 have hin:InF B g ob g ob:=InF.refl
 have hf1:=hf
 obtain⟨p,hp⟩:∃p,fG ts (k+1) n=p:=⟨_,rfl⟩
 rw[hp]
 rw[fG] at hp
 simp only[go_sem,n1,n2]
 refine bV ts n fin [41] aa rfl (by simp only[go_sem,n1,n2]) (B+20) a6 (fi hf1) (by simp only[go_sem,n1,n2,ho]) a6 (fun h=>?_) (fun h=>?_)
 ·rw[if_pos (show ay ts n=Src.iN from h)] at hp
  simp only[go_sem,n1,n2]
  refine⟨_,ag.refl _,?_⟩
  simp only[go_sem,n1,n2]
  exact InF.ret (n:=n+1) (a:=[]) (rs:=[.one (.d (.sl []))]) (InF.go hin) (by simp only[go_sem,n1,n2]) hp.symm ⟨_,_,rfl,.one .nil,rfl⟩ rfl
 rw[if_neg (show ¬ay ts n=Src.iN from h)] at hp
 simp only[go_sem,n1,n2]
 refine ar aa rfl ((ih k (j8 _)).expr 1 n a6 a6 a6 a6) (by simp only[go_sem,n1,n2];all_goals rfl) (B+20) a6 (fi hf1) (by simp only[go_sem,n1,n2,ho]) (InF.go hin) (fun m h=>by rw[←hp,h];rfl) ?_
 intro e m he
 rw[he,PR.bind_ok] at hp
 have hm1:=Src.fU k 1 n e m he
 have hm2:=Src.er k 1 n e m he
 simp only[go_sem,n1,n2,exV,cR,j4]
 refine ak (fun z st=>∃(j n':Nat) (acc:List Ex),z+n'=ts.length∧acc.length≤n'∧4*(ts.length-n')+2≤j∧j≤k∧st.f 0=.one (.ptr 125 (g 125) 0)∧st.f 3=.one (.osl (B+8) (st.gen (B+8)) 5 0 acc.length)∧st.obj (B+8)=some (exC acc)∧st.obj 125=some (rdC ts n' fin)∧InF B g ob st.gen st.obj∧(∀i,B+20≤i→st.obj i=none)∧gY ts j acc n'=p) (ts.length-m) ?_ ?_
 ·refine⟨k,m,[e],a6,by simp;omega,a6,j8 _,?_⟩
  simp only[go_sem,n1,n2,nx]
  exact⟨(InF.go hin),(fi hf1),hp⟩
 clear hf1 hin hp he
 rintro z f g1 ob1 ⟨j,n',acc,hz,hacc,hj,hjk,q0,q3,o8,o125,hin,hf1,hp⟩
 simp only at q0 q3 o8 o125 hin hf1
 obtain⟨j,rfl⟩:∃i,j=i+1:=⟨j-1,a6⟩
 rw[gY] at hp
 have hg:=hin.rd
 simp only[go_sem,q0]
 refine bV ts n' fin [44] aa rfl (by simp only[go_sem,n1,n2,hg,q0]) (B+20) a6 (fi hf1) (by simp only[go_sem,n1,n2,o125]) a6 (fun h=>?_) (fun h=>?_)
 ·rw[if_pos (show ay ts n'=Src.wZ from h)] at hp
  have hlt:=Src.cC h a7
  simp only[go_sem,n1,n2,q0,q3]
  refine ar aa rfl ((ih j a6).expr 1 (n'+1) a6 a6 a6 a6) (by simp only[go_sem,n1,n2,hg,q0];all_goals rfl) (B+20) a6 (fi hf1) (by simp only[go_sem,n1,n2]) (InF.go hin) (fun m h=>by rw[←hp,h];rfl) ?_
  intro e m he
  rw[he,PR.bind_ok] at hp
  have hm1:=Src.fU j 1 (n'+1) e m he
  have hm2:=Src.er j 1 (n'+1) e m he
  have hcl:=JC acc
  simp only[go_sem,n1,n2,exV,cR,j4,q0,q3,o8,hcl,aH]
  refine⟨a6,⟨a8,a6⟩,?_⟩
  refine ah (ts.length-m) a6 ⟨j,m,acc++[e],a6,by rw[j5];simp;omega,a6,a6,?_⟩
  simp only[go_sem,n1,n2,q0,q3,j5]
  refine⟨?_,(InF.go hin),(fi hf1),hp⟩
  rw[l7 a6,JD,nx,l7 (by simp[cR])]
 ·rw[if_neg (show ¬ay ts n'=Src.wZ from h)] at hp
  simp only[go_sem,n1,n2,q0,q3]
  refine bK ts n' fin aa rfl [[41]] (B+17) (by simp only[go_sem,n1,n2,hg,q0];all_goals rfl) (B+20) a6 (fi hf1) (by simp only[go_sem,n1,n2,o125]) (by simp;omega) a6 a6 (by simp only[go_sem,n1,n2,bP]) (InF.go hin) (fun m h=>by rw[←hp,show Src.iN=[41] from rfl,h];rfl) ?_
  intro m hm
  rw[show Src.iN=[41] from rfl,hm,PR.bind_ok] at hp
  simp only[go_sem,n1,n2,q0,q3]
  refine⟨_,ag.refl _,?_⟩
  simp only[go_sem,n1,n2,q3]
  exact InF.ret (n:=m) (a:=acc) (InF.go hin) (by simp only[go_sem,n1,n2]) hp.symm (BZ a6 (by simp only[go_sem,n1,n2]) (by simp only[go_sem,n1,n2,o8]) rfl) rfl
section
variable {ts:List Src.Tok}
theorem NA{fin k least n:Nat} (hl:ts.length≤100000) (ih:∀j,j≤k→ExK ts fin j) (hle:1≤least) (hle2:least≤100) (hnl:n≤ts.length) (hk:4*(ts.length-n)+3≤k+1):eK 259 [iv .i64 least] ts n fin (cL ts (k+1) least n) exV:=by
 intro B g ob hB hf ho
 refine hdM B [125] Tryz.func259 rfl [.cell 4 51] (by simp;omega) hf fun b₀ β0 s0 w0=>?_
 have n1:=nlo hB
 have n2:=nhi hB
 have hin:InF B g ob g ob:=InF.refl
 have hf1:=hf
 obtain⟨p,hp⟩:∃p,cL ts (k+1) least n=p:=⟨_,rfl⟩
 rw[hp]
 rw[cL] at hp
 simp only[go_sem,n1,n2]
 refine ar aa rfl ((ih k (j8 _)).atom n a6 a6) (by simp only[go_sem,n1,n2];all_goals rfl) (B+35) a6 (fi hf1) (by simp only[go_sem,n1,n2,ho]) (InF.go hin) (fun m h=>by rw[←hp,h];rfl) ?_
 intro e m he
 rw[he,PR.bind_ok] at hp
 have hm1:=Src.yX k n e m he
 have hm2:=Src.vO k n e m he
 obtain⟨ek,eo,en,es,ekd⟩:=e
 simp only[go_sem,n1,n2,exV,exD]
 refine ak (fun z st=>∃(j n':Nat) (left:Ex),z+n'=ts.length∧4*(ts.length-n')+2≤j∧j≤k∧st.f 0=.one (.ptr 125 (g 125) 0)∧st.f 1=iv .i64 least∧st.f 4=.one (.ptr (B+4) (st.gen (B+4)) 0)∧st.f 5=.one (.ptr (B+5) (st.gen (B+5)) 0)∧
  (∃a b c d e,st.obj (B+4)=some [a,b,c,d,e])∧st.obj (B+5)=some ((exD left).map .d)∧st.obj 125=some (rdC ts n' fin)∧InF B g ob st.gen st.obj∧(∀i,B+35≤i→st.obj i=none)∧gX ts j least left n'=p) (ts.length-m) ?_ ?_
 ·refine⟨k,m,.mk ek eo en es ekd,a6,a6,j8 _,?_⟩
  simp only[go_sem,n1,n2,exD]
  exact⟨⟨_,_,_,_,_,rfl,rfl,rfl,rfl,rfl⟩,(InF.go hin),(fi hf1),hp⟩
 clear hf1 hin hp he
 rintro z f g1 ob1 ⟨j,n',left,hz,hj,hjk,q0,q1,q4,q5,⟨a,b,c,d,e,o4⟩,o5,o125,hin,hf1,hp⟩
 simp only at q0 q1 q4 q5 o4 o5 o125 hin hf1
 obtain⟨j,rfl⟩:∃i,j=i+1:=⟨j-1,a6⟩
 rw[gX] at hp
 have hg:=hin.rd
 obtain⟨lk,lo,ln,ls,lkd⟩:=left
 simp only[exD,l5,v8] at o5
 have hsl:=JB (ay ts n')
 simp only[go_sem,q0]
 refine Dn ts n' fin aa rfl (by simp only[go_sem,n1,n2,hg,q0]) (B+35) a6 (fi hf1) (by simp only[go_sem,n1,n2,o125]) ?_
 simp only[go_sem,q0]
 refine TB rfl (by simp only[go_sem,q0];exact Nw _) ?_
 rintro _ rfl
 unfold BV
 by_cases hlt:(Src.vL (ay ts n')).2.2<least
 ·rw[if_pos hlt] at hp
  have hli:((Src.vL (ay ts n')).2.2:Int)<(least:Int):=a6
  simp only[go_sem,q0,q1,q4,q5,hli,o4,o5]
  refine⟨_,ag.refl _,?_⟩
  simp only[go_sem,q4,n1,n2]
  exact InF.ret (n:=n') (a:=.mk lk lo ln ls lkd) (InF.go hin) (by simp only[go_sem,n1,n2,o125]) hp.symm (yp (.d _)) (by simp[pack,exV,exD])
 rw[if_neg hlt] at hp
 have hli:¬((Src.vL (ay ts n')).2.2:Int)<(least:Int):=a6
 have hnl':n'<ts.length:=by
  refine Src.cC rfl fun h=>?_
  rw[h,Gn] at hlt
  omega
 have hw:=ab (k:=n') a6
 have hws:=ab (k:=(Src.vL (ay ts n')).2.2) a6
 unfold rdC iD at o125
 simp only[go_sem,q0,q1,q4,q5,hli,o4,o5,hg,o125,hw,n1,n2]
 obtain⟨right,m',hlook⟩:=look (cL ts j ((Src.vL (ay ts n')).2.2+1) (n'+1))
 refine jx (∃a m,cL ts j ((Src.vL (ay ts n')).2.2+1) (n'+1)=.ok a m) aP mixed aa [B+32,125] [([5],[1],[],false),([0],[],[],false),([7],[],[],false),([29],[],[],false),([28,30],[],[1],false),([27,31],[],[0],false),([6],[0,1],[],false),([33,32],[],[],true)] 2 rfl b9 rfl (by simp;omega) ?_
 simp only[go_sem]
 (apply bC;(case hf=>rfl);(case hg=>first|exact w7|exact⟨_,rfl,by decide,rfl⟩);(case h1=>intro fa ga oa K' hK;simp only[go_sem,q5,o5,n1,n2] at hK ⊢;exact hK))
 iterate 2 (apply bC;(case hf=>rfl);(case hg=>first|exact w7|exact⟨_,rfl,by decide,rfl⟩);(case h1=>intro fa ga oa K' hK;simp only[go_sem,q0] at hK ⊢;exact hK))
 (apply bC;(case hf=>rfl);(case hg=>first|exact w7|exact⟨_,rfl,by decide,rfl⟩);(case h1=>intro fa ga oa K' hK;simp only[go_sem,hws] at hK ⊢;exact hK))
 refine jy (v:=exV right) (y:=some (rdC ts m' fin)) w7 a7 (fun fa ga oa K' hK=>?_) ?_
 ·simp only[go_sem,q0] at hK ⊢
  refine ar (k:=bx K') aa rfl ((ih j a6).expr ((Src.vL (ay ts n')).2.2+1) (n'+1) a6 a6 a6 a6) (by simp only[go_sem,n1,n2,hg];all_goals rfl) (B+35) a6 (fi hf1) (by simp only[go_sem,n1,n2,rdC,iD]) (InF.go hin) (fun m h=>by rw[←hp,h];rfl) ?_
  intro a2 m2 h2
  have e:=hlook ⟨_,_,h2⟩
  rw[h2] at e
  cases e
  simp only[go_sem]
  exact hK ⟨_,_,h2⟩
 (apply iU;(case hf=>rfl);(case hg=>first|exact w7|exact⟨_,rfl,by decide,rfl⟩);(case h1=>intro fa ga oa K' hK;simp only[go_sem,exV,cR,j4] at hK ⊢;exact hK))
 (apply bC;(case hf=>rfl);(case hg=>first|exact w7|exact⟨_,rfl,by decide,rfl⟩);(case h1=>intro fa ga oa K' hK;simp only[go_sem,n1,n2] at hK ⊢;exact hK))
 refine jz rfl w7 ?_
 intro K' hK'
 simp only[go_sem,n1,n2]
 refine hK' _ ?_
 clear hK' K'
 intro hz'
 have e:=hlook hz'
 rw[e,PR.bind_ok] at hp
 have hm1:=Src.fU j ((Src.vL (ay ts n')).2.2+1) (n'+1) right m' e
 have hm2:=Src.er j ((Src.vL (ay ts n')).2.2+1) (n'+1) right m' e
 simp only[go_sem,n1,n2,q5,o5,q0,q1,q4]
 refine⟨ts.length-m',_,a6,Eb (id:=B+32) (o:=B+5) (cells:=[.d (.int .i64 (Src.vL (ay ts n')).1),.d (.int .i64 (Src.vL (ay ts n')).2.1),.d (.int .u32 0),.d (.str []),.osl (B+32) (nxC (aH Tt 49+1) (g1 (B+32))) 5 0 2]) (cs:=[.d (.int .i64 (Src.vL (ay ts n')).1),.d (.int .i64 (Src.vL (ay ts n')).2.1),.d (.int .u32 0),.d (.str []),.d (.sl [exD (.mk lk lo ln ls lkd),exD right])]) (by simp only[go_sem,n1,n2]) rfl ?_,?_⟩
 ·intro i c c' hc hc'
  match i,hc,hc' with
  |0,hc,hc'=>cases hc;cases hc';exact .inl rfl
  |1,hc,hc'=>cases hc;cases hc';exact .inl rfl
  |2,hc,hc'=>cases hc;cases hc';exact .inl rfl
  |3,hc,hc'=>cases hc;cases hc';exact .inl rfl
  |4,hc,hc'=>
    cases hc;cases hc'
    refine .inr ⟨_,eH (P:=(· = B+32)) rfl ?_ [.mk lk lo ln ls lkd,right] exD (cells:=exC [.mk lk lo ln ls lkd,right]) ?_ rfl (fun a _=>cR a) rfl,rfl⟩
    ·simp only[go_sem,n1,n2]
    ·simp only[go_sem,n1,n2]
     simp[exC,exD]
 refine⟨j,m',.mk (Src.vL (ay ts n')).1 (Src.vL (ay ts n')).2.1 0 [] [.mk lk lo ln ls lkd,right],a6,a6,a6,?_⟩
 simp only[St.drop1]
 simp only[go_sem,n1,n2,q0,q1,q4,exD,rY]
 exact⟨q5,⟨_,_,_,_,_,o4⟩,(InF.go hin),(fi hf1),hp⟩
theorem Dp (fin:Nat) (hl:ts.length≤100000) (k:Nat):ExK ts fin k:=by
 induction k using Nat.strongRecOn with
 |ind k ih=>
   cases k with
   |zero=>exact⟨fun _ _ _ _ _ h=>absurd h a6,fun _ _ h=>absurd h a6,fun _ _ h=>absurd h a6⟩
   |succ k=>
     exact⟨fun least n h1 h2 h3 h4=>NA hl (fun j hj=>ih j a6) h1 h2 h3 h4,fun n h1 h2=>Ny hl (ih k a6) h1 h2,fun n h1 h2=>Nz hl (fun j hj=>ih j a6) h1 h2⟩
end
end
section
attribute [local congr] Go.Am.ite_cc
open Go Go.Am Go.Asm
open Go.Src (PR dC ay takeN bE Ex Stm cL gX eT fG gY jj iO eg dZ)
section
def jP (l:List Str):AV:=.one (.d (.sl (l.map fun s=>[.str s])))
theorem qL (l:List Str):(bP l).length=l.length:=j4 _
theorem Gp {B id g n:Nat}{s:St}{l:List Str} (hid:B≤id) (hg:s.gen id=g) (ho:s.obj id=some (bP l)) (hn:l.length=n):eO B s [.one (.osl id g 1 0 n)] [jP l]:=
 ⟨_,_,rfl,.one (eH hid hg l (fun s=>[.str s]) ho (by unfold bP;clear ho hn;induction l with|nil=>rfl|cons a l ih=>simpa using ih) (fun _ _=>rfl) hn),rfl⟩
variable {ts:List Src.Tok}{fin k n:Nat}
theorem wQ (hl:ts.length≤100000) (hnl:n≤ts.length) (hk:ts.length-n+1≤k):eK 119 [] ts n fin (eg ts k n) jP:=by
 intro B g ob hB hf ho
 refine hdM B [125] Tryz.func119 rfl [.tmp 2] (by simp;omega) hf fun b₀ β0 s0 w0=>?_
 have n1:=nlo hB
 have n2:=nhi hB
 have hin:InF B g ob g ob:=InF.refl
 have hf1:=hf
 obtain⟨p,hp⟩:∃p,eg ts k n=p:=⟨_,rfl⟩
 rw[hp]
 rw[eg] at hp
 simp only[go_sem,n1,n2]
 refine ar aa rfl (mQ ts n fin 1 a6 a8) (by simp only[go_sem,n1,n2];all_goals rfl) (B+17) a6 (fi hf1) (by simp only[go_sem,n1,n2,ho]) (InF.go hin) (fun m h=>by rw[←hp,h];rfl) ?_
 intro t m ht
 rw[ht,PR.bind_ok] at hp
 have hm1:=Src.jg t m ht
 have hm2:=Src.fC t m ht
 unfold nH lJ
 simp only[go_sem,n1,n2]
 refine ak (fun z st=>∃(j n':Nat) (acc:List Str),z+n'=ts.length∧acc.length≤n'∧ts.length-n'+1≤j∧st.f 0=.one (.ptr 125 (g 125) 0)∧st.f 3=.one (.osl (B+7) (st.gen (B+7)) 1 0 acc.length)∧st.obj (B+7)=some (bP acc)∧st.obj 125=some (rdC ts n' fin)∧InF B g ob st.gen st.obj∧(∀i,B+17≤i→st.obj i=none)∧dZ ts j acc n'=p) (ts.length-m) ?_ ?_
 ·refine⟨k,m,[t.text],a6,by simp;omega,a6,?_⟩
  simp only[go_sem,n1,n2,bP]
  exact⟨(InF.go hin),(fi hf1),hp⟩
 clear hf1 hin hp
 rintro z f g1 ob1 ⟨j,n',acc,hz,hacc,hj,q0,q3,o7,o125,hin,hf1,hp⟩
 simp only at q0 q3 o7 o125 hin hf1
 obtain⟨j,rfl⟩:∃i,j=i+1:=⟨j-1,a6⟩
 rw[dZ] at hp
 have hg:=hin.rd
 simp only[go_sem,q0]
 refine bV ts n' fin [44] aa rfl (by simp only[go_sem,n1,n2,hg,q0]) (B+17) a6 (fi hf1) (by simp only[go_sem,n1,n2,o125]) a6 (fun h=>?_) (fun h=>?_)
 ·rw[if_pos (show ay ts n'=Src.wZ from h)] at hp
  have hlt:=Src.cC h a7
  simp only[go_sem,n1,n2,q0,q3]
  refine ar aa rfl (mQ ts (n'+1) fin 1 a6 a8) (by simp only[go_sem,n1,n2,hg,q0];all_goals rfl) (B+17) a6 (fi hf1) (by simp only[go_sem,n1,n2]) (InF.go hin) (fun m h=>by rw[←hp,h];rfl) ?_
  intro t m ht
  rw[ht,PR.bind_ok] at hp
  have hm1:=Src.jg t m ht
  have hm2:=Src.fC t m ht
  have hcl:=qL acc
  unfold nH lJ
  simp only[go_sem,n1,n2,q0,q3,o7,hcl,aH]
  refine⟨a6,⟨a8,a6⟩,?_⟩
  refine ah (ts.length-m) a6 ⟨j,m,acc++[t.text],a6,by rw[j5];simp;omega,a6,?_⟩
  simp only[go_sem,n1,n2,q0,q3,j5]
  refine⟨?_,(InF.go hin),(fi hf1),hp⟩
  rw[l7 a6]
  simp[bP]
 ·rw[if_neg (show ¬ay ts n'=Src.wZ from h)] at hp
  simp only[go_sem,n1,n2,q0,q3]
  refine⟨_,ag.refl _,?_⟩
  simp only[go_sem,n1,n2,q3]
  exact InF.ret (n:=n') (a:=acc) (InF.go hin) (by simp only[go_sem,n1,n2,o125]) hp.symm (Gp a6 (by simp only[go_sem,n1,n2]) (by simp only[go_sem,n1,n2,o7]) rfl) rfl
theorem wR (hl:ts.length≤100000) (hnl:n≤ts.length) (hk:4*(ts.length-n)+3≤k):eK 258 [] ts n fin (jj ts k n) dj:=by
 intro B g ob hB hf ho
 refine hdM B [125] Tryz.func258 rfl [.tmp 2] (by simp;omega) hf fun b₀ β0 s0 w0=>?_
 have n1:=nlo hB
 have n2:=nhi hB
 have hin:InF B g ob g ob:=InF.refl
 have hf1:=hf
 obtain⟨p,hp⟩:∃p,jj ts k n=p:=⟨_,rfl⟩
 rw[hp]
 rw[jj] at hp
 simp only[go_sem,n1,n2]
 refine bK ts n fin aa rfl [[40]] (B+5) (by simp only[go_sem,n1,n2];all_goals rfl) (B+14) a6 (fi hf1) (by simp only[go_sem,n1,n2,ho]) (by simp;omega) a6 a6 (by simp only[go_sem,n1,n2,bP]) (InF.go hin) (fun m h=>by rw[←hp,show Src.kl=[40] from rfl,h];rfl) ?_
 intro m hm
 rw[show Src.kl=[40] from rfl,hm,PR.bind_ok] at hp
 have hm1:=Src.cj (ts:=ts) a7 () m hm
 have hm2:=Src.cg () m hm
 simp only[go_sem,n1,n2]
 refine ar aa rfl ((Dp fin hl k).expr 1 m a6 a6 a6 a6) (by simp only[go_sem,n1,n2];all_goals rfl) (B+14) a6 (fi hf1) (by simp only[go_sem,n1,n2]) (InF.go hin) (fun m h=>by rw[←hp,h];rfl) ?_
 intro e m2 he
 rw[he,PR.bind_ok] at hp
 have hm3:=Src.fU k 1 m e m2 he
 obtain⟨ek,eo,en,es,ekd⟩:=e
 simp only[go_sem,n1,n2,exV,exD]
 refine bK ts m2 fin aa rfl [[41]] (B+10) (by simp only[go_sem,n1,n2];all_goals rfl) (B+14) a6 (fi hf1) (by simp only[go_sem,n1,n2]) (by simp;omega) a6 a6 (by simp only[go_sem,n1,n2,bP]) (InF.go hin) (fun m h=>by rw[←hp,show Src.iN=[41] from rfl,h];rfl) ?_
 intro m3 hm
 rw[show Src.iN=[41] from rfl,hm,PR.bind_ok] at hp
 simp only[go_sem,n1,n2]
 refine⟨_,ag.refl _,?_⟩
 simp only[go_sem,n1,n2]
 exact InF.ret (n:=m3) (a:=[.mk ek eo en es ekd]) (InF.go hin) (by simp only[go_sem,n1,n2]) hp.symm (BZ a6 (by simp only[go_sem,n1,n2]) (by simp only[go_sem,n1,n2];simp[exC,exD]) rfl) rfl
end
end
section
attribute [local congr] Go.Am.ite_cc
open Go Go.Am Go.Asm
open Go.Src (PR dC ay takeN bE Ex Stm cL gX eT fG gY jj iO eg jn iE cX)
mutual
def smD:Stm→List D
 |.mk kind name e th el=>[.int .i64 kind,.str name,.sl (rY e),.sl (rZ th),.sl (rZ el)]
def rZ:List Stm→List (List D)
 |[]=>[]
 |s::l=>smD s::rZ l
end
theorem cK:∀l:List Stm,rZ l=l.map smD
 |[]=>by simp[rZ]
 |e::l=>by simp[rZ,cK l]
theorem kj (e:Stm):(smD e).length=5:=by cases e;simp[smD]
def smV (e:Stm):AV:=.agg ((smD e).map .d)
def dO (l:List Stm):AV:=.one (.d (.sl (l.map smD)))
def smC (l:List Stm):List C:=l.flatMap fun a=>(smD a).map .d
theorem JE (l:List Stm):(smC l).length=l.length*5:=by
 induction l with
 |nil=>rfl
 |cons a l ih=>simp only[smC,D3,j5,j4,kj,j6] at ih ⊢;omega
theorem JF (e:Stm):smC [e]=(smD e).map .d:=by simp[smC]
theorem JG (l m:List Stm):smC (l++m)=smC l++smC m:=by simp[smC]
theorem JH {B id g n:Nat}{s:St}{l:List Stm} (hid:B≤id) (hg:s.gen id=g) (ho:s.obj id=some (smC l)) (hn:l.length=n):eO B s [.one (.osl id g 5 0 n)] [dO l]:=
 ⟨_,_,rfl,.one (eH hid hg l smD ho rfl (fun a _=>kj a) hn),rfl⟩
theorem nS {B:Nat}{s:St}{a b:D}{c3 c4 c5:C}{x3 x4 x5:D} (h3:fJ (B≤·) s c3 x3) (h4:fJ (B≤·) s c4 x4) (h5:fJ (B≤·) s c5 x5):eO B s [.agg [.d a,.d b,c3,c4,c5]] [.agg [.d a,.d b,.d x3,.d x4,.d x5]]:=
 ⟨_,_,rfl,.agg (xs:=[a,b,x3,x4,x5]) rfl (fun i e he=>by
  match i,he with
  |0,he=>cases he;exact⟨_,rfl,.d _⟩
  |1,he=>cases he;exact⟨_,rfl,.d _⟩
  |2,he=>cases he;exact⟨_,rfl,h3⟩
  |3,he=>cases he;exact⟨_,rfl,h4⟩
  | 4,he=>cases he;exact⟨_,rfl,h5⟩),rfl⟩
theorem JI {ts:List Src.Tok}{fin k n:Nat} (hl:ts.length≤100000) (hnl:n≤ts.length) (hk:4*(ts.length-n)+3≤k):eK 261 [] ts n fin (iO ts k n) smV:=by
 intro B g ob hB hf ho
 refine hdM B [125] Tryz.func261 rfl [.cell 2 54] (by simp;omega) hf fun b₀ β0 s0 w0=>?_
 have n1:=nlo hB
 have n2:=nhi hB
 have hin:InF B g ob g ob:=InF.refl
 have hf1:=hf
 obtain⟨p,hp⟩:∃p,iO ts k n=p:=⟨_,rfl⟩
 rw[hp]
 rw[iO] at hp
 simp only[go_sem,n1,n2]
 refine ar aa rfl (mQ ts n fin 1 a6 a8) (by simp only[go_sem,n1,n2];all_goals rfl) (B+44) a6 (fi hf1) (by simp only[go_sem,n1,n2,ho]) (InF.go hin) (fun m h=>by rw[←hp,h];rfl) ?_
 intro t m ht
 rw[ht,PR.bind_ok] at hp
 have hm1:=Src.jg t m ht
 have hm2:=Src.fC t m ht
 unfold nH lJ
 simp only[go_sem,n1,n2]
 refine bV ts m fin [61] aa rfl (by simp only[go_sem,n1,n2]) (B+44) a6 (fi hf1) (by simp only[go_sem,n1,n2]) a6 (fun h=>?_) (fun h=>?_)
 ·rw[if_pos h] at hp
  have hlt:=Src.cC h a7
  simp only[go_sem,n1,n2]
  refine ar aa rfl ((Dp fin hl k).expr 1 (m+1) a6 a6 a6 a6) (by simp only[go_sem,n1,n2];all_goals rfl) (B+44) a6 (fi hf1) (by simp only[go_sem,n1,n2]) (InF.go hin) (fun m h=>by rw[←hp,h];rfl) ?_
  intro e m2 he
  rw[he,PR.bind_ok,PR.bind_ok] at hp
  have hm3:=Src.fU k 1 (m+1) e m2 he
  simp only[go_sem,n1,n2,exV,cR,j4]
  refine bK ts m2 fin aa rfl [[59]] (B+41) (by simp only[go_sem,n1,n2];all_goals rfl) (B+44) a6 (fi hf1) (by simp only[go_sem,n1,n2]) (by simp;omega) a6 a6 (by simp only[go_sem,n1,n2,bP]) (InF.go hin) (fun m h=>by rw[←hp,show Src.kn=[59] from rfl,h];rfl) ?_
  intro m3 hm
  rw[show Src.kn=[59] from rfl,hm,PR.bind_ok] at hp
  simp only[go_sem,n1,n2]
  refine⟨_,ag.refl _,?_⟩
  simp only[go_sem,n1,n2]
  exact InF.ret (n:=m3) (a:=.mk 1 t.text [e] [] []) (InF.go hin) (by simp only[go_sem,n1,n2]) hp.symm (nS (ny (l:=[e]) a6 (by simp only[go_sem,n1,n2]) (by simp only[go_sem,n1,n2,nx]) rfl) .nil .nil) (by simp[pack,smV,smD,rZ])
 rw[if_neg h] at hp
 simp only[go_sem,n1,n2]
 refine bV ts m fin [91] aa rfl (by simp only[go_sem,n1,n2]) (B+44) a6 (fi hf1) (by simp only[go_sem,n1,n2]) a6 (fun h=>?_) (fun h=>?_)
 ·rw[if_pos h] at hp
  have hlt:=Src.cC h a7
  simp only[go_sem,n1,n2]
  refine ar aa rfl ((Dp fin hl k).expr 1 (m+1) a6 a6 a6 a6) (by simp only[go_sem,n1,n2];all_goals rfl) (B+44) a6 (fi hf1) (by simp only[go_sem,n1,n2]) (InF.go hin) (fun m h=>by rw[←hp,h];rfl) ?_
  intro e m2 he
  rw[he,PR.bind_ok] at hp
  have hm3:=Src.fU k 1 (m+1) e m2 he
  have hm3':=Src.er k 1 (m+1) e m2 he
  obtain⟨ek,eo,en,es,ekd⟩:=e
  simp only[go_sem,n1,n2,exV,exD]
  refine bK ts m2 fin aa rfl [[93],[61]] (B+25) (by simp only[go_sem,n1,n2];all_goals rfl) (B+44) a6 (fi hf1) (by simp only[go_sem,n1,n2]) (by simp;omega) a6 a6 (by simp only[go_sem,n1,n2,bP]) (InF.go hin) (fun m h=>by rw[←hp,h];rfl) ?_
  intro m3 hm
  rw[hm,PR.bind_ok] at hp
  have hm4:=Src.cj (ts:=ts) a7 () m3 hm
  have hm5:=Src.cg () m3 hm
  simp only[go_sem,n1,n2]
  obtain⟨right,m',hlook⟩:=look (cL ts k 1 m3)
  refine jx (∃a m,cL ts k 1 m3=.ok a m) aP mixed aa [B+31,125] [([4],[1],[],false),([0],[],[],false),([29],[],[1],false),([28,30],[],[0],false),([3],[0,1],[],false),([32,31],[],[],true)] 2 rfl b9 rfl (by simp;omega) ?_
  simp only[go_sem]
  (apply bC;(case hf=>rfl);(case hg=>first|exact w7|exact⟨_,rfl,by decide,rfl⟩);(case h1=>intro fa ga oa K' hK;simp only[go_sem,n1,n2] at hK ⊢;exact hK))
  (apply bC;(case hf=>rfl);(case hg=>first|exact w7|exact⟨_,rfl,by decide,rfl⟩);(case h1=>intro fa ga oa K' hK;simp only[go_sem] at hK ⊢;exact hK))
  refine jy (v:=exV right) (y:=some (rdC ts m' fin)) w7 a7 (fun fa ga oa K' hK=>?_) ?_
  ·simp only[go_sem,n1,n2] at hK ⊢
   refine ar (k:=bx K') aa rfl ((Dp fin hl k).expr 1 m3 a6 a6 a6 a6) (by simp only[go_sem,n1,n2];all_goals rfl) (B+44) a6 (fi hf1) (by simp only[go_sem,n1,n2]) (InF.go hin) (fun m h=>by rw[←hp,h];rfl) ?_
   exact VY
  (apply iU;(case hf=>rfl);(case hg=>first|exact w7|exact⟨_,rfl,by decide,rfl⟩);(case h1=>intro fa ga oa K' hK;simp only[go_sem,exV,cR,j4,n1,n2] at hK ⊢;exact hK))
  (apply bC;(case hf=>rfl);(case hg=>first|exact w7|exact⟨_,rfl,by decide,rfl⟩);(case h1=>intro fa ga oa K' hK;simp only[go_sem,n1,n2] at hK ⊢;exact hK))
  refine jz rfl w7 ?_
  intro K' hK'
  simp only[go_sem,n1,n2]
  refine hK' _ ?_
  clear hK' K'
  intro hz'
  have e:=hlook hz'
  rw[e,PR.bind_ok,PR.bind_ok] at hp
  have hm6:=Src.fU k 1 m3 right m' e
  simp only[go_sem,n1,n2]
  refine bK ts m' fin aa rfl [[59]] (B+41) (by simp only[go_sem,n1,n2];all_goals rfl) (B+44) a6 (fi hf1) (by simp only[go_sem,n1,n2]) (by simp;omega) a6 a6 (by simp only[go_sem,n1,n2,bP]) (InF.go hin) (fun m h=>by rw[←hp,show Src.kn=[59] from rfl,h];rfl) ?_
  intro m4 hm
  rw[show Src.kn=[59] from rfl,hm,PR.bind_ok] at hp
  simp only[go_sem,n1,n2]
  refine⟨_,ag.refl _,?_⟩
  simp only[go_sem,n1,n2]
  exact InF.ret (n:=m4) (a:=.mk 2 t.text [.mk ek eo en es ekd,right] [] []) (InF.go hin) (by simp only[go_sem,n1,n2]) hp.symm (nS (ny (l:=[.mk ek eo en es ekd,right]) a6 (by simp only[go_sem,n1,n2]) (by simp only[go_sem,n1,n2];simp[exC,exD]) rfl) .nil .nil) (by simp[pack,smV,smD,rZ])
 rw[if_neg h] at hp
 simp only[go_sem,n1,n2]
 refine bV ts m fin [40] aa rfl (by simp only[go_sem,n1,n2]) (B+44) a6 (fi hf1) (by simp only[go_sem,n1,n2]) a6 (fun h=>?_) (fun h=>?_)
 ·rw[if_pos (show ay ts m=Src.kl from h)] at hp
  have hlt:=Src.cC h a7
  simp only[go_sem,n1,n2]
  refine ar aa rfl ((Dp fin hl k).args (m+1) a6 a6) (by simp only[go_sem,n1,n2];all_goals rfl) (B+44) a6 (fi hf1) (by simp only[go_sem,n1,n2]) (InF.go hin) (fun m h=>by rw[←hp,h];rfl) ?_
  intro l m2 he
  rw[he,PR.bind_ok,PR.bind_ok] at hp
  have hm3:=Src.yY k (m+1) l m2 he
  simp only[go_sem,n1,n2,dj]
  refine bK ts m2 fin aa rfl [[59]] (B+41) (by simp only[go_sem,n1,n2];all_goals rfl) (B+44) a6 (fi hf1) (by simp only[go_sem,n1,n2]) (by simp;omega) a6 a6 (by simp only[go_sem,n1,n2,bP]) (InF.go hin) (fun m h=>by rw[←hp,show Src.kn=[59] from rfl,h];rfl) ?_
  intro m3 hm
  rw[show Src.kn=[59] from rfl,hm,PR.bind_ok] at hp
  simp only[go_sem,n1,n2]
  refine⟨_,ag.refl _,?_⟩
  simp only[go_sem,n1,n2]
  exact InF.ret (n:=m3) (a:=.mk 6 t.text l [] []) (InF.go hin) (by simp only[go_sem,n1,n2]) hp.symm (nS (.d _) .nil .nil) (by simp[pack,smV,smD,rZ,aw])
 rw[if_neg (show ¬ay ts m=Src.kl from h)] at hp
 simp only[go_sem,n1,n2]
 exact Do ts m fin aa rfl (by simp only[go_sem,n1,n2]) (by simp only[go_sem,n1,n2]) (InF.go hin) hp.symm
section
structure SmK (ts:List Src.Tok) (fin k:Nat):Prop where
 stmt:∀(n:Nat),n≤ts.length→4*(ts.length-n)+4≤k→eK 237 [] ts n fin (jn ts k n) smV
 body:∀(n:Nat),n≤ts.length→4*(ts.length-n)+6≤k→eK 260 [] ts n fin (iE ts k n) dO
 stmts:∀(n:Nat),n≤ts.length→4*(ts.length-n)+5≤k→eK 191 [] ts n fin (cX ts k [] n) dO
variable {ts:List Src.Tok}{fin k n:Nat}
theorem Nm (hl:ts.length≤100000) (ih:SmK ts fin k) (hnl:n≤ts.length) (hk:4*(ts.length-n)+4≤k+1):eK 237 [] ts n fin (jn ts (k+1) n) smV:=by
 intro B g ob hB hf ho
 refine hdM B [125] Tryz.func237 rfl [.cell 2 54] (by simp;omega) hf fun b₀ β0 s0 w0=>?_
 have n1:=nlo hB
 have n2:=nhi hB
 have hin:InF B g ob g ob:=InF.refl
 have hf1:=hf
 obtain⟨p,hp⟩:∃p,jn ts (k+1) n=p:=⟨_,rfl⟩
 rw[hp]
 rw[jn] at hp
 simp only[go_sem,n1,n2]
 refine bV ts n fin [112,117,116] aa rfl (by simp only[go_sem,n1,n2]) (B+55) a6 (fi hf1) (by simp only[go_sem,n1,n2,ho]) a6 (fun h=>?_) (fun h=>?_)
 ·rw[if_pos h] at hp
  have hlt:=Src.cC h a7
  simp only[go_sem,n1,n2]
  refine ar aa rfl (wR hl (k:=k) (n:=n+1) a6 a6) (by simp only[go_sem,n1,n2];all_goals rfl) (B+55) a6 (fi hf1) (by simp only[go_sem,n1,n2]) (InF.go hin) (fun m h=>by rw[←hp,h];rfl) ?_
  intro l m he
  rw[he,PR.bind_ok] at hp
  have hm3:=Src.qV l m he
  simp only[go_sem,n1,n2,dj]
  refine bK ts m fin aa rfl [[59]] (B+13) (by simp only[go_sem,n1,n2];all_goals rfl) (B+55) a6 (fi hf1) (by simp only[go_sem,n1,n2]) (by simp;omega) a6 a6 (by simp only[go_sem,n1,n2,bP]) (InF.go hin) (fun m h=>by rw[←hp,show Src.kn=[59] from rfl,h];rfl) ?_
  intro m3 hm
  rw[show Src.kn=[59] from rfl,hm,PR.bind_ok] at hp
  simp only[go_sem,n1,n2]
  refine⟨_,ag.refl _,?_⟩
  simp only[go_sem,n1,n2]
  exact InF.ret (n:=m3) (a:=.mk 3 [] l [] []) (InF.go hin) (by simp only[go_sem,n1,n2]) hp.symm (nS (.d _) .nil .nil) (by simp[pack,smV,smD,rZ,aw])
 rw[if_neg h] at hp
 simp only[go_sem,n1,n2]
 refine bV ts n fin [114,101,116,117,114,110] aa rfl (by simp only[go_sem,n1,n2]) (B+55) a6 (fi hf1) (by simp only[go_sem,n1,n2,ho]) a6 (fun h=>?_) (fun h=>?_)
 ·rw[if_pos h] at hp
  have hlt:=Src.cC h a7
  simp only[go_sem,n1,n2]
  refine bV ts (n+1) fin [59] aa rfl (by simp only[go_sem,n1,n2]) (B+55) a6 (fi hf1) (by simp only[go_sem,n1,n2]) a6 (fun h=>?_) (fun h=>?_)
  ·rw[if_pos (show ay ts (n+1)=Src.kn from h)] at hp
   simp only[go_sem,n1,n2]
   refine⟨_,ag.refl _,?_⟩
   simp only[go_sem,n1,n2]
   exact InF.ret (n:=n+2) (a:=.mk 7 [] [] [] []) (InF.go hin) (by simp only[go_sem,n1,n2]) hp.symm (nS .nil .nil .nil) (by simp[pack,smV,smD,rZ,rY])
  rw[if_neg (show ¬ay ts (n+1)=Src.kn from h)] at hp
  simp only[go_sem,n1,n2]
  refine ar aa rfl ((Dp fin hl k).expr 1 (n+1) a6 a6 a6 a6) (by simp only[go_sem,n1,n2];all_goals rfl) (B+55) a6 (fi hf1) (by simp only[go_sem,n1,n2]) (InF.go hin) (fun m h=>by rw[←hp,h];rfl) ?_
  intro e m2 he
  rw[he,PR.bind_ok] at hp
  have hm3:=Src.fU k 1 (n+1) e m2 he
  simp only[go_sem,n1,n2,exV,cR,j4]
  refine bK ts m2 fin aa rfl [[59]] (B+28) (by simp only[go_sem,n1,n2];all_goals rfl) (B+55) a6 (fi hf1) (by simp only[go_sem,n1,n2]) (by simp;omega) a6 a6 (by simp only[go_sem,n1,n2,bP]) (InF.go hin) (fun m h=>by rw[←hp,show Src.kn=[59] from rfl,h];rfl) ?_
  intro m3 hm
  rw[show Src.kn=[59] from rfl,hm,PR.bind_ok] at hp
  simp only[go_sem,n1,n2]
  refine⟨_,ag.refl _,?_⟩
  simp only[go_sem,n1,n2]
  exact InF.ret (n:=m3) (a:=.mk 7 [] [e] [] []) (InF.go hin) (by simp only[go_sem,n1,n2]) hp.symm (nS (ny (l:=[e]) a6 (by simp only[go_sem,n1,n2]) (by simp only[go_sem,n1,n2,nx]) rfl) .nil .nil) (by simp[pack,smV,smD,rZ])
 rw[if_neg h] at hp
 simp only[go_sem,n1,n2]
 refine bV ts n fin [105,102] aa rfl (by simp only[go_sem,n1,n2]) (B+55) a6 (fi hf1) (by simp only[go_sem,n1,n2,ho]) a6 (fun h=>?_) (fun h=>?_)
 ·rw[if_pos h] at hp
  have hlt:=Src.cC h a7
  simp only[go_sem,n1,n2]
  refine ar aa rfl (wR hl (k:=k) (n:=n+1) a6 a6) (by simp only[go_sem,n1,n2];all_goals rfl) (B+55) a6 (fi hf1) (by simp only[go_sem,n1,n2]) (InF.go hin) (fun m h=>by rw[←hp,h];rfl) ?_
  intro l m he
  rw[he,PR.bind_ok] at hp
  have hm3:=Src.qV l m he
  have hm3':=Src.pb l m he
  simp only[go_sem,n1,n2,dj]
  refine ar aa rfl (ih.body m a6 a6) (by simp only[go_sem,n1,n2];all_goals rfl) (B+55) a6 (fi hf1) (by simp only[go_sem,n1,n2]) (InF.go hin) (fun m h=>by rw[←hp,h];rfl) ?_
  intro th m2 he
  rw[he,PR.bind_ok] at hp
  have hm4:=Src.uk k m th m2 he
  have hm4':=Src.qU k m th m2 he
  simp only[go_sem,n1,n2,dO]
  refine bV ts m2 fin [101,108,115,101] aa rfl (by simp only[go_sem,n1,n2]) (B+55) a6 (fi hf1) (by simp only[go_sem,n1,n2]) a6 (fun h=>?_) (fun h=>?_)
  ·rw[if_pos h] at hp
   have hlt:=Src.cC h a7
   simp only[go_sem,n1,n2]
   refine ar aa rfl (ih.body (m2+1) a6 a6) (by simp only[go_sem,n1,n2];all_goals rfl) (B+55) a6 (fi hf1) (by simp only[go_sem,n1,n2]) (InF.go hin) (fun m h=>by rw[←hp,h];rfl) ?_
   intro el m5 he
   rw[he,PR.bind_ok] at hp
   simp only[go_sem,n1,n2,dO]
   refine⟨_,ag.refl _,?_⟩
   simp only[go_sem,n1,n2]
   exact InF.ret (n:=m5) (a:=.mk 4 [] l th el) (InF.go hin) (by simp only[go_sem,n1,n2]) hp.symm (nS (.d _) (.d _) (.d _)) (by simp[pack,smV,smD,cK,aw])
  rw[if_neg h] at hp
  simp only[go_sem,n1,n2]
  refine⟨_,ag.refl _,?_⟩
  simp only[go_sem,n1,n2]
  exact InF.ret (n:=m2) (a:=.mk 4 [] l th []) (InF.go hin) (by simp only[go_sem,n1,n2]) hp.symm (nS (.d _) (.d _) .nil) (by simp[pack,smV,smD,cK,aw])
 rw[if_neg h] at hp
 simp only[go_sem,n1,n2]
 refine bV ts n fin [119,104,105,108,101] aa rfl (by simp only[go_sem,n1,n2]) (B+55) a6 (fi hf1) (by simp only[go_sem,n1,n2,ho]) a6 (fun h=>?_) (fun h=>?_)
 ·rw[if_pos h] at hp
  have hlt:=Src.cC h a7
  simp only[go_sem,n1,n2]
  refine ar aa rfl (wR hl (k:=k) (n:=n+1) a6 a6) (by simp only[go_sem,n1,n2];all_goals rfl) (B+55) a6 (fi hf1) (by simp only[go_sem,n1,n2]) (InF.go hin) (fun m h=>by rw[←hp,h];rfl) ?_
  intro l m he
  rw[he,PR.bind_ok] at hp
  have hm3:=Src.qV l m he
  have hm3':=Src.pb l m he
  simp only[go_sem,n1,n2,dj]
  refine ar aa rfl (ih.body m a6 a6) (by simp only[go_sem,n1,n2];all_goals rfl) (B+55) a6 (fi hf1) (by simp only[go_sem,n1,n2]) (InF.go hin) (fun m h=>by rw[←hp,h];rfl) ?_
  intro th m2 he
  rw[he,PR.bind_ok] at hp
  simp only[go_sem,n1,n2,dO]
  refine⟨_,ag.refl _,?_⟩
  simp only[go_sem,n1,n2]
  exact InF.ret (n:=m2) (a:=.mk 5 [] l th []) (InF.go hin) (by simp only[go_sem,n1,n2]) hp.symm (nS (.d _) (.d _) .nil) (by simp[pack,smV,smD,cK,aw])
 rw[if_neg h] at hp
 simp only[go_sem,n1,n2]
 refine ar aa rfl (JI hl (k:=k) (n:=n) a6 a6) (by simp only[go_sem,n1,n2];all_goals rfl) (B+55) a6 (fi hf1) (by simp only[go_sem,n1,n2,ho]) (InF.go hin) (fun m h=>by rw[←hp,h]) ?_
 intro e m2 he
 rw[he] at hp
 obtain⟨ek,es,e1,e2,e3⟩:=e
 simp only[go_sem,n1,n2,smV,smD]
 refine⟨_,ag.refl _,?_⟩
 simp only[go_sem,n1,n2]
 exact InF.ret (n:=m2) (a:=.mk ek es e1 e2 e3) (InF.go hin) (by simp only[go_sem,n1,n2]) hp.symm (nS (.d _) (.d _) (.d _)) (by simp[pack,smV,smD])
theorem Nn (hl:ts.length≤100000) (ih:SmK ts fin k) (hnl:n≤ts.length) (hk:4*(ts.length-n)+6≤k+1):eK 260 [] ts n fin (iE ts (k+1) n) dO:=by
 intro B g ob hB hf ho
 refine hdM B [125] Tryz.func260 rfl [.tmp 2] (by simp;omega) hf fun b₀ β0 s0 w0=>?_
 have n1:=nlo hB
 have n2:=nhi hB
 have hin:InF B g ob g ob:=InF.refl
 have hf1:=hf
 obtain⟨p,hp⟩:∃p,iE ts (k+1) n=p:=⟨_,rfl⟩
 rw[hp]
 rw[iE] at hp
 simp only[go_sem,n1,n2]
 refine bK ts n fin aa rfl [[123]] (B+4) (by simp only[go_sem,n1,n2];all_goals rfl) (B+8) a6 (fi hf1) (by simp only[go_sem,n1,n2,ho]) (by simp;omega) a6 a6 (by simp only[go_sem,n1,n2,bP]) (InF.go hin) (fun m h=>by rw[←hp,h];rfl) ?_
 intro m hm
 rw[hm,PR.bind_ok] at hp
 have hm1:=Src.cj (ts:=ts) a7 () m hm
 have hm2:=Src.cg () m hm
 simp only[go_sem,n1,n2]
 refine ar aa rfl (ih.stmts m a6 a6) (by simp only[go_sem,n1,n2];all_goals rfl) (B+8) a6 (fi hf1) (by simp only[go_sem,n1,n2]) (InF.go hin) (fun m h=>by rw[←hp,h]) ?_
 intro l m2 he
 rw[he] at hp
 simp only[go_sem,n1,n2,dO]
 refine⟨_,ag.refl _,?_⟩
 simp only[go_sem,n1,n2]
 exact InF.ret (n:=m2) (a:=l) (rs:=[dO l]) (InF.go hin) (by simp only[go_sem,n1,n2]) hp.symm ⟨_,_,rfl,.one (.d _),rfl⟩ rfl
theorem Jd (hl:ts.length≤100000) (ih:∀j,j≤k→SmK ts fin j) (hnl:n≤ts.length) (hk:4*(ts.length-n)+5≤k+1):eK 191 [] ts n fin (cX ts (k+1) [] n) dO:=by
 intro B g ob hB hf ho
 refine hdM B [125] Tryz.func191 rfl [.tmp 2] (by simp;omega) hf fun b₀ β0 s0 w0=>?_
 have n1:=nlo hB
 have n2:=nhi hB
 obtain⟨p,hp⟩:∃p,cX ts (k+1) [] n=p:=⟨_,rfl⟩
 rw[hp]
 simp only[go_sem,n1,n2]
 refine ak (fun z st=>∃(j n':Nat) (acc:List Stm),z+n'=ts.length∧acc.length≤n'∧4*(ts.length-n')+5≤j∧j≤k+1∧st.f 0=.one (.ptr 125 (g 125) 0)∧((acc=[]∧st.f 3=.one (.d .nsl))∨(st.f 3=.one (.osl (B+11) (st.gen (B+11)) 5 0 acc.length)∧st.obj (B+11)=some (smC acc)))∧st.obj 125=some (rdC ts n' fin)∧InF B g ob st.gen st.obj∧(∀i,B+13≤i→st.obj i=none)∧cX ts j acc n'=p) (ts.length-n) ?_ ?_
 ·refine⟨k+1,n,[],a6,a7,a6,j8 _,?_⟩
  simp only[go_sem,n1,n2]
  exact⟨.inl trivial,ho,InF.refl,fun i hi=>hf i a6,hp⟩
 clear hp
 rintro z f g1 ob1 ⟨j,n',acc,hz,hacc,hj,hjk,q0,q3,o125,hin,hf1,hp⟩
 simp only at q0 q3 o125 hin hf1
 obtain⟨j,rfl⟩:∃i,j=i+1:=⟨j-1,a6⟩
 rw[cX] at hp
 have hg:=hin.rd
 simp only[go_sem,q0]
 refine bV ts n' fin [125] aa rfl (by simp only[go_sem,n1,n2,hg,q0]) (B+13) a6 (fi hf1) (by simp only[go_sem,n1,n2,o125]) a6 (fun h=>?_) (fun h=>?_)
 ·rw[if_pos h] at hp
  rcases q3 with⟨rfl,q3⟩|⟨q3,o3⟩
  ·simp only[go_sem,n1,n2,q0,q3]
   refine⟨_,ag.refl _,?_⟩
   simp only[go_sem,n1,n2,q3]
   exact InF.ret (n:=n'+1) (a:=[]) (rs:=[.one (.d (.sl []))]) (InF.go hin) (by simp only[go_sem,n1,n2]) hp.symm ⟨_,_,rfl,.one .nil,rfl⟩ rfl
  ·simp only[go_sem,n1,n2,q0,q3]
   refine⟨_,ag.refl _,?_⟩
   simp only[go_sem,n1,n2,q3]
   exact InF.ret (n:=n'+1) (a:=acc) (InF.go hin) (by simp only[go_sem,n1,n2]) hp.symm (JH a6 (by simp only[go_sem,n1,n2]) (by simp only[go_sem,n1,n2,o3]) rfl) rfl
 rw[if_neg h] at hp
 have hst:=(ih j a6).stmt n' a6 a6
 rcases q3 with⟨rfl,q3⟩|⟨q3,o3⟩
 ·simp only[go_sem,n1,n2,q0,q3]
  refine ar aa rfl hst (by simp only[go_sem,n1,n2,hg,q0];all_goals rfl) (B+13) a6 (fi hf1) (by simp only[go_sem,n1,n2,o125]) (InF.go hin) (fun m h=>by rw[←hp,h];rfl) ?_
  intro e m he
  rw[he,PR.bind_ok] at hp
  have hm1:=Src.Hk j n' e m he
  have hm2:=Src.DL j n' e m he
  simp only[go_sem,n1,n2,smV,kj,j4,q0,q3,aH]
  refine⟨⟨a8,a6⟩,?_⟩
  refine ah (ts.length-m) a6 ⟨j,m,[]++[e],a6,by simp;omega,a6,a6,?_⟩
  simp only[go_sem,n1,n2,q0,q3]
  refine⟨.inr ?_,(InF.go hin),(fi hf1),hp⟩
  rw[l7 (by simp[kj])]
  simp[smC]
 ·have hcl:=JE acc
  simp only[go_sem,n1,n2,q0,q3]
  refine ar aa rfl hst (by simp only[go_sem,n1,n2,hg,q0];all_goals rfl) (B+13) a6 (fi hf1) (by simp only[go_sem,n1,n2,o125]) (InF.go hin) (fun m h=>by rw[←hp,h];rfl) ?_
  intro e m he
  rw[he,PR.bind_ok] at hp
  have hm1:=Src.Hk j n' e m he
  have hm2:=Src.DL j n' e m he
  simp only[go_sem,n1,n2,smV,kj,j4,q0,q3,o3,hcl,aH]
  refine⟨a6,⟨a8,a6⟩,?_⟩
  refine ah (ts.length-m) a6 ⟨j,m,acc++[e],a6,by rw[j5];simp;omega,a6,a6,?_⟩
  simp only[go_sem,n1,n2,q0,q3,j5]
  refine⟨.inr ?_,(InF.go hin),(fi hf1),hp⟩
  rw[l7 a6,JG,JF,l7 (by simp[kj])]
theorem UG (fin:Nat) (hl:ts.length≤100000) (k:Nat):SmK ts fin k:=by
 induction k using Nat.strongRecOn with
 |ind k ih=>
   cases k with
   |zero=>exact⟨fun _ _ h=>absurd h a6,fun _ _ h=>absurd h a6,fun _ _ h=>absurd h a6⟩
   |succ k=>exact⟨fun n h1 h2=>Nm hl (ih k a6) h1 h2,fun n h1 h2=>Nn hl (ih k a6) h1 h2,fun n h1 h2=>Jd hl (fun j hj=>ih j a6) h1 h2⟩
end
end
end Go.Proofs.YtgbcmokfgbmabaaGreatDoorR
namespace Go.Am
section
attribute [local congr] Go.Am.ite_cc
theorem mP {P:Program}{rd:Option Nat}{b₀:Bs}{Φ:St→Loc→List Deferred→World→Prop}{B0:Nat}{Ψ:fO}{B:(Exit→St→Prop)→St→Prop}{b:Box B}{Q:Exit→St→Prop}{q:Box Q}{s:St} (s₁:St) (hv:ag s s₁) (I:Nat→St→Prop) (n:Nat) (h0:I n s₁)
  (hr:∀n f g ob,I n ⟨f,g,ob⟩→B (jD (bx fun s'=>∃n' s₁,n'<n∧(spF P rd b₀ Φ B0 Ψ).vs s' s₁∧I n' s₁) q) ⟨f,g,ob⟩):pg (spF P rd b₀ Φ B0 Ψ) b q s:=
 ⟨I,⟨n,s₁,hv,h0⟩,fun n s hs=>hr n s.f s.gen s.obj hs⟩
end
end Go.Am
namespace Go.Proofs.YtgbcmokfgbmabaaGreatDoorR
section
attribute [local congr] Go.Am.ite_cc
open Go Go.Am Go.Asm
open Go.Src (PR dC ay takeN bE Ex Stm eg cX dv mh)
def fnD (f:Src.Fn):List D:=[.str f.name,.sl (f.params.map fun s=>[.str s]),.sl (f.locals.map fun s=>[.str s]),.bool f.word,.sl (f.body.map smD)]
theorem Je (f:Src.Fn):(fnD f).length=5:=rfl
def fnV (f:Src.Fn):AV:=.agg ((fnD f).map .d)
theorem BP {P:Nat→Prop}{s:St}{id g n:Nat}{l:List Str} (hid:P id) (hg:s.gen id=g) (ho:s.obj id=some (bP l)) (hn:l.length=n):fJ P s (.osl id g 1 0 n) (.sl (l.map fun s=>[.str s])):=
 eH hid hg l (fun s=>[.str s]) ho (by unfold bP;clear ho hn;induction l with|nil=>rfl|cons a l ih=>simpa using ih) (fun _ _=>rfl) hn
theorem BQ (l:List Str):((l.map fun s=>([.str s]:List D)).flatten).map C.d=bP l:=by
 unfold bP
 induction l with
 |nil=>rfl
 |cons a l ih=>simpa using ih
theorem LG {ts:List Src.Tok}{fin k n:Nat} (hl:ts.length≤100000) (hnl:n≤ts.length) (hk:4*(ts.length-n)+5≤k):eK 122 [] ts n fin (mh ts k n) fnV:=by
 intro B g ob hB hf ho
 refine hdM B [125] Tryz.func122 rfl [.cell 2 56] (by simp;omega) hf fun b₀ β0 s0 w0=>?_
 have n1:=nlo hB
 have n2:=nhi hB
 have hin:InF B g ob g ob:=InF.refl
 have hf1:=hf
 obtain⟨p,hp⟩:∃p,mh ts k n=p:=⟨_,rfl⟩
 rw[hp]
 rw[mh] at hp
 simp only[go_sem,n1,n2]
 refine bK ts n fin aa rfl [[102,117,110,99]] (B+5) (by simp only[go_sem,n1,n2];all_goals rfl) (B+44) a6 (fi hf1) (by simp only[go_sem,n1,n2,ho]) (by simp;omega) a6 a6 (by simp only[go_sem,n1,n2,bP]) (InF.go hin) (fun m h=>by rw[←hp,h];rfl) ?_
 intro m hm
 rw[hm,PR.bind_ok] at hp
 have hm1:=Src.cj (ts:=ts) a7 () m hm
 have hm2:=Src.cg () m hm
 simp only[go_sem,n1,n2]
 refine ar aa rfl (mQ ts m fin 1 a6 a8) (by simp only[go_sem,n1,n2];all_goals rfl) (B+44) a6 (fi hf1) (by simp only[go_sem,n1,n2]) (InF.go hin) (fun m h=>by rw[←hp,h];rfl) ?_
 intro t m3 ht
 rw[ht,PR.bind_ok] at hp
 have hm3:=Src.jg t m3 ht
 have hm4:=Src.fC t m3 ht
 unfold nH lJ
 simp only[go_sem,n1,n2]
 refine bK ts m3 fin aa rfl [[40]] (B+12) (by simp only[go_sem,n1,n2];all_goals rfl) (B+44) a6 (fi hf1) (by simp only[go_sem,n1,n2]) (by simp;omega) a6 a6 (by simp only[go_sem,n1,n2,bP]) (InF.go hin) (fun m h=>by rw[←hp,show Src.kl=[40] from rfl,h];rfl) ?_
 intro m5 hm
 rw[show Src.kl=[40] from rfl,hm,PR.bind_ok] at hp
 have hm5:=Src.cj (ts:=ts) a7 () m5 hm
 have hm6:=Src.cg () m5 hm
 simp only[go_sem,n1,n2]
 refine vy ts m5 fin aa rfl (by simp only[go_sem,n1,n2]) (by simp only[go_sem,n1,n2]) ?_
 by_cases h1:dC ts m5=1
 case' pos=>
  rw[if_pos h1] at hp
  have h1i:(dC ts m5:Int)=1:=a6
  simp only[go_sem,h1i,n1,n2]
  refine ar aa rfl (wQ hl (k:=k) (n:=m5) a6 a6) (by simp only[go_sem,n1,n2];all_goals rfl) (B+44) a6 (fi hf1) (by simp only[go_sem,n1,n2]) (InF.go hin) (fun m h=>by rw[←hp,h];rfl) ?_
  intro ps m7 he
  rw[he,PR.bind_ok] at hp
  have hm7:m7≤ts.length:=by have:=Src.qX ps m7 he;omega
  have hm7':m5≤m7:=by have:=Src.uj ps m7 he;omega
  obtain⟨cx,hfx,hcx⟩:∃cx:C,(∀s:St,fJ (B≤·) s cx (.sl (ps.map fun s=>[.str s])))∧cx=.d (.sl (ps.map fun s=>[D.str s])):=⟨_,fun s=>.d _,rfl⟩
  simp only[go_sem,n1,n2,jP]
  clear he h1i h1
 case' neg=>
  have h1i:¬(dC ts m5:Int)=1:=a6
  simp only[go_sem,h1i,n1,n2]
  obtain⟨ps,hps⟩:∃ps:List Str,ps=[]:=⟨_,rfl⟩
  obtain⟨m7,hm7e⟩:∃m7,m7=m5:=⟨_,rfl⟩
  have e7:(PR.ok ([]:List Str) m5)=PR.ok ps m7:=by rw[hps,hm7e]
  rw[if_neg h1,e7,PR.bind_ok] at hp
  obtain⟨cx,hfx,hcx⟩:∃cx:C,(∀s:St,fJ (B≤·) s cx (.sl (ps.map fun s=>[.str s])))∧cx=.d .nsl:=⟨_,fun s=>by rw[hps];exact .nil,rfl⟩
  clear h1i h1 e7
  have hm7:m7≤ts.length:=a6
  have hm7':m5≤m7:=a6
  rw[←hm7e]
  clear hm7e hps
 all_goals
  refine bK ts m7 fin aa rfl [[41]] (B+21) (by simp only[go_sem,n1,n2];all_goals rfl) (B+44) a6 (fi hf1) (by simp only[go_sem,n1,n2]) (by simp;omega) a6 a6 (by simp only[go_sem,n1,n2,bP]) (InF.go hin) (fun m h=>by rw[←hp,show Src.iN=[41] from rfl,h];rfl) ?_
  intro m8 hm
  rw[show Src.iN=[41] from rfl,hm,PR.bind_ok] at hp
  have hm8:=Src.cj (ts:=ts) a7 () m8 hm
  have hm8':=Src.cg () m8 hm
  simp only[go_sem,n1,n2]
  by_cases h:ay ts m8=[119,111,114,100]
  case' pos=>
   have hlt:=Src.cC h a7
   refine bV ts m8 fin [119,111,114,100] aa rfl (by simp only[go_sem,n1,n2]) (B+44) a6 (fi hf1) (by simp only[go_sem,n1,n2]) a6 (fun _=>?_) (fun h'=>absurd h h')
   obtain⟨w,hw⟩:∃w,w=true:=⟨_,rfl⟩
   obtain⟨m9,hm9⟩:∃m9,m9=m8+1:=⟨_,rfl⟩
   rw[if_pos h,A7 h,←hw,←hm9] at hp
   rw[←hm9]
   simp only[go_sem,n1,n2]
  case' neg=>
   refine bV ts m8 fin [119,111,114,100] aa rfl (by simp only[go_sem,n1,n2]) (B+44) a6 (fi hf1) (by simp only[go_sem,n1,n2]) a6 (fun h'=>absurd h' h) (fun _=>?_)
   obtain⟨w,hw⟩:∃w,w=false:=⟨_,rfl⟩
   obtain⟨m9,hm9⟩:∃m9,m9=m8:=⟨_,rfl⟩
   rw[if_neg h,y7 h,←hw,←hm9] at hp
   rw[←hm9]
   simp only[go_sem,n1,n2]
  all_goals
   clear h
   have hm9a:m9≤ts.length:=a6
   have hm9b:m8≤m9:=a6
   refine bK ts m9 fin aa rfl [[123]] (B+27) (by simp only[go_sem,n1,n2];all_goals rfl) (B+44) a6 (fi hf1) (by simp only[go_sem,n1,n2]) (by simp;omega) a6 a6 (by simp only[go_sem,n1,n2,bP]) (InF.go hin) (fun m h=>by rw[←hp,h];rfl) ?_
   intro m10 hm
   rw[hm,PR.bind_ok] at hp
   have hm10:=Src.cj (ts:=ts) a7 () m10 hm
   have hm10':=Src.cg () m10 hm
   simp only[go_sem,n1,n2]
   refine mP _ (cN (t:=3) (o:=B+3) (b:=B+35) (j:=2) (sz:=1) (off:=0) (cells:=[.d (.str t.text),cx,.d .nsl,.d (.bool w),.d .nsl]) (by simp only[go_sem,n1,n2]) (by simp only[go_sem,n1,n2,hcx,hw]) rfl a6)
    (fun z st=>∃(j n':Nat) (acc:List Str),z+n'=ts.length∧acc.length≤n'∧ts.length-n'+1≤j∧m10≤n'∧st.f 0=.one (.ptr 125 (g 125) 0)∧st.f 2=.one (.ptr (B+2) (st.gen (B+2)) 0)∧st.f 3=.one (.ptr (B+3) (st.gen (B+3)) 0)∧(∃a b c d e,st.obj (B+2)=some [a,b,c,d,e])∧
      st.obj (B+3)=some [.d (.str t.text),cx,.osl (B+35) (st.gen (B+35)) 1 0 acc.length,.d (.bool w),.d .nsl]∧st.obj (B+35)=some (bP acc)∧st.obj 125=some (rdC ts n' fin)∧InF B g ob st.gen st.obj∧(∀i,B+44≤i→st.obj i=none)∧
      ((dv ts j acc n').bind fun ls m=>(cX ts k [] m).bind fun b m=>Src.PR.ok { name:=t.text,params:=ps,locals:=ls,word:=w,body:=b } m)=p) (ts.length-m10) ?_ ?_
   ·simp only[St.claimAt]
    refine⟨k,m10,[],a6,a7,a6,j8 _,?_⟩
    simp only[go_sem,n1,n2]
    exact⟨⟨_,_,_,_,_,rfl,rfl,rfl,rfl,rfl⟩,rfl,(InF.go hin),(fi hf1),hp⟩
   clear hf1 hin hp
   rintro z f g1 ob1 ⟨j,n',acc,hz,hacc,hj,hmn,q0,q2,q3,⟨a,b,c,d,e,o2⟩,o3,o35,o125,hin,hf1,hp⟩
   simp only at q0 q2 q3 o2 o3 o35 o125 hin hf1
   obtain⟨j,rfl⟩:∃i,j=i+1:=⟨j-1,a6⟩
   rw[dv] at hp
   have hg:=hin.rd
   simp only[go_sem,q0]
   refine bV ts n' fin [118,97,114] aa rfl (by simp only[go_sem,n1,n2,hg,q0]) (B+44) a6 (fi hf1) (by simp only[go_sem,n1,n2,o125]) a6 (fun h=>?_) (fun h=>?_)
   ·rw[if_pos h] at hp
    have hlt:=Src.cC h a7
    have hcl:=qL acc
    simp only[go_sem,n1,n2,q0]
    obtain⟨ls,m',hgl,hlook⟩:=LI (eg ts j (n'+1)) (G:=fun l=>l.length≤100000) [] a7 (fun l m h=>by have:=Src.AW h;have:=Src.qX l m h;omega)
    refine jx (∃a m,eg ts j (n'+1)=.ok a m) aP mixed aa [B+35,125] [([3],[1],[],false),([31],[1],[],false),([0],[],[],false),([33],[],[1],false),([32,34],[],[0],false),([3],[0,1],[],false),([36,35],[],[],true)] 2 rfl b9 rfl (by simp;omega) ?_
    simp only[go_sem]
    (apply bC;(case hf=>rfl);(case hg=>first|exact w7|exact⟨_,rfl,by decide,rfl⟩);(case h1=>intro fa ga oa K' hK;simp only[go_sem,n1,n2,q3,o3] at hK ⊢;exact hK))
    (apply bC;(case hf=>rfl);(case hg=>first|exact w7|exact⟨_,rfl,by decide,rfl⟩);(case h1=>intro fa ga oa K' hK;simp only[go_sem,n1,n2,q3,o3] at hK ⊢;exact hK))
    (apply bC;(case hf=>rfl);(case hg=>first|exact w7|exact⟨_,rfl,by decide,rfl⟩);(case h1=>intro fa ga oa K' hK;simp only[go_sem,q0] at hK ⊢;exact hK))
    refine jy (v:=jP ls) (y:=some (rdC ts m' fin)) w7 a7 (fun fa ga oa K' hK=>?_) ?_
    ·simp only[go_sem,n1,n2] at hK ⊢
     refine ar (k:=bx K') aa rfl (wQ hl (k:=j) (n:=n'+1) a6 a6) (by simp only[go_sem,n1,n2,hg];all_goals rfl) (B+44) a6 (fi hf1) (by simp only[go_sem,n1,n2]) (InF.go hin) (fun m h=>by rw[←hp,h];rfl) ?_
     exact VY
    refine iU (a:=0) (v:=.one (.osl (B+35) (nxC (apC 9 (g1 (B+35)) 0) (g1 (B+35))) 1 0 (acc.length+ls.length))) (x:=nxC (apC 9 (g1 (B+35)) 0) (g1 (B+35))) (y:=some (bP (acc++ls))) rfl w7 (fun fa ga oa K' hK=>?_) ?_
    ·simp only[go_sem,n1,n2,jP,o35,hcl,aH,j4] at hK ⊢
     have e1:List.take acc.length (bP acc)++List.map C.d (List.map (fun s=>([D.str s]:List D)) ls).flatten=bP (acc++ls):=by
      rw[l7 a6,BQ]
      simp[bP]
     exact Yd
    (apply bC;(case hf=>rfl);(case hg=>first|exact w7|exact⟨_,rfl,by decide,rfl⟩);(case h1=>intro fa ga oa K' hK;simp only[go_sem,n1,n2,q3,o3] at hK ⊢;exact hK))
    refine jz rfl w7 ?_
    intro K' hK'
    simp only[go_sem,n1,n2,o3]
    refine hK' _ ?_
    clear hK' K'
    intro hz'
    have e:=hlook hz'
    rw[e,PR.bind_ok] at hp
    have hm1:=Src.qX ls m' e
    have hm2:=Src.uj ls m' e
    have hm3:=Src.AW e
    simp only[go_sem,n1,n2,q0]
    refine bK ts m' fin aa rfl [[59]] (B+38) (by simp only[go_sem,n1,n2,hg];all_goals rfl) (B+44) a6 (fi hf1) (by simp only[go_sem,n1,n2]) (by simp;omega) a6 a6 (by simp only[go_sem,n1,n2,bP]) (InF.go hin) (fun m h=>by rw[←hp,show Src.kn=[59] from rfl,h];rfl) ?_
    intro m4 hm
    rw[show Src.kn=[59] from rfl,hm,PR.bind_ok] at hp
    have hm4:=Src.cj (ts:=ts) a7 () m4 hm
    have hm5:=Src.cg () m4 hm
    simp only[go_sem,n1,n2]
    refine ah (ts.length-m4) a6 ⟨j,m4,acc++ls,a6,by rw[j5];omega,a6,a6,?_⟩
    simp only[go_sem,n1,n2,q0,q2,q3,j5]
    exact⟨⟨_,_,_,_,_,o2⟩,(InF.go hin),(fi hf1),hp⟩
   ·rw[if_neg h,PR.bind_ok] at hp
    simp only[go_sem,n1,n2,q0]
    refine ar aa rfl ((UG fin hl k).stmts n' a6 a6) (by simp only[go_sem,n1,n2,hg,q0];all_goals rfl) (B+44) a6 (fi hf1) (by simp only[go_sem,n1,n2,o125]) (InF.go hin) (fun m h=>by rw[←hp,h];rfl) ?_
    intro bd m4 he
    rw[he,PR.bind_ok] at hp
    simp only[go_sem,n1,n2,q2,q3,o2,o3,dO]
    refine⟨_,ag.refl _,?_⟩
    simp only[go_sem,n1,n2,q2]
    refine InF.ret (n:=m4) (a:=⟨t.text,ps,acc,w,bd⟩) (rs:=[.agg [.d (.str t.text),.d (.sl (ps.map fun s=>[.str s])),.d (.sl (acc.map fun s=>[.str s])),.d (.bool w),.d (.sl (bd.map smD))]]) (InF.go hin) (by simp only[go_sem,n1,n2]) hp.symm ?_ rfl
    exact⟨_,_,rfl,.agg (xs:=[.str t.text,.sl (ps.map fun s=>[.str s]),.sl (acc.map fun s=>[.str s]),.bool w,.sl (bd.map smD)]) rfl (fun i e he=>by
     match i,he with
     |0,he=>cases he;exact⟨_,rfl,.d _⟩
     |1,he=>cases he;exact⟨_,rfl,hfx _⟩
     |2,he=>cases he;exact⟨_,rfl,BP a6 (by simp only[go_sem,n1,n2]) (by simp only[go_sem,n1,n2,o35]) rfl⟩
     |3,he=>cases he;exact⟨_,rfl,.d _⟩
     | 4,he=>cases he;exact⟨_,rfl,.d _⟩),rfl⟩
end
section
attribute [local congr] Go.Am.ite_cc
open Go Go.Am Go.Asm
open Go.Src (PR dC ay takeN bE Ex Stm eg cX dv mh lY lZ ma)
section
def arD (a:Str×Int):List D:=[.str a.1,.int .i64 a.2]
def ym (l:List (Str×Int)):List C:=l.flatMap fun a=>(arD a).map .d
theorem Gc (l:List (Str×Int)):(ym l).length=l.length*2:=by
 induction l with
 |nil=>rfl
 |cons a l ih=>simp only[ym,D3,j5,j4,arD,j6,j7] at ih ⊢;omega
def fnC (l:List Src.Fn):List C:=l.flatMap fun a=>(fnD a).map .d
theorem Jf (l:List Src.Fn):(fnC l).length=l.length*5:=by
 induction l with
 |nil=>rfl
 |cons a l ih=>simp only[fnC,D3,j5,j4,Je,j6] at ih ⊢;omega
theorem BR (f:Src.Fn):fnC [f]=(fnD f).map .d:=by simp[fnC]
theorem Jg (l m:List Src.Fn):fnC (l++m)=fnC l++fnC m:=by simp[fnC]
def iq (p:Src.Prog):List D:=[.sl (p.vars.map fun s=>[.str s]),.sl (p.arrays.map arD),.sl (p.funcs.map fnD)]
def bO (p:Src.Prog):AV:=.agg ((iq p).map .d)
variable {P:Nat→Prop}{id g n:Nat}
theorem No{s:St}{l:List (Str×Int)} (hid:P id) (hg:s.gen id=g) (ho:s.obj id=some (ym l)) (hn:l.length=n):fJ P s (.osl id g 2 0 n) (.sl (l.map arD)):=
 eH hid hg l arD ho rfl (fun _ _=>rfl) hn
theorem RO{s:St}{l:List Src.Fn} (hid:P id) (hg:s.gen id=g) (ho:s.obj id=some (fnC l)) (hn:l.length=n):fJ P s (.osl id g 5 0 n) (.sl (l.map fnD)):=
 eH hid hg l fnD ho rfl (fun _ _=>rfl) hn
instance:Inhabited Src.Fn:=⟨⟨[],[],[],false,[]⟩⟩
theorem Np {ts:List Src.Tok}{fin k:Nat} (hl:ts.length≤100000) (hnum:∀t∈ts,t.num≤4294967295) (hk:4*ts.length+7≤k):eK 77 [] ts 0 fin (ma ts k 0) bO:=by
 intro B g ob hB hf ho
 refine hdM B [125] Tryz.func77 rfl [.cell 2 26] (by simp;omega) hf fun b₀ β0 s0 w0=>?_
 have n1:=nlo hB
 have n2:=nhi hB
 have hin:InF B g ob g ob:=InF.refl
 have hf1:=hf
 obtain⟨p,hp⟩:∃p,ma ts k 0=p:=⟨_,rfl⟩
 rw[hp]
 rw[ma] at hp
 simp only[go_sem,n1,n2]
 refine mP _ (((cN (t:=3) (o:=B+3) (b:=B+12) (j:=0) (sz:=1) (off:=0) (cells:=[.d .nsl,.d .nsl,.d .nsl]) (by simp only[go_sem,n1,n2]) (by simp only[go_sem,n1,n2]) rfl a6).trans
   (cN (t:=3) (o:=B+3) (b:=B+32) (j:=1) (sz:=2) (off:=0) (cells:=[.osl (B+12) (g (B+12)+1) 1 0 0,.d .nsl,.d .nsl]) (by simp only[St.claimAt];simp only[go_sem,n1,n2]) (by simp only[St.claimAt];simp only[go_sem,n1,n2]) rfl a6)).trans
   (cN (t:=3) (o:=B+3) (b:=B+45) (j:=2) (sz:=5) (off:=0) (cells:=[.osl (B+12) (g (B+12)+1) 1 0 0,.osl (B+32) (g (B+32)+1) 2 0 0,.d .nsl]) (by simp only[St.claimAt];simp only[go_sem,n1,n2]) (by simp only[St.claimAt];simp only[go_sem,n1,n2]) rfl a6))
  (fun z st=>∃(j n':Nat) (vs:List Str) (ars:List (Str×Int)),z+n'=ts.length∧vs.length≤n'∧ars.length≤n'∧ts.length-n'+1≤j∧st.f 0=.one (.ptr 125 (g 125) 0)∧st.f 2=.one (.ptr (B+2) (st.gen (B+2)) 0)∧st.f 3=.one (.ptr (B+3) (st.gen (B+3)) 0)∧(∃a b c,st.obj (B+2)=some [a,b,c])∧
    st.obj (B+3)=some [.osl (B+12) (st.gen (B+12)) 1 0 vs.length,.osl (B+32) (st.gen (B+32)) 2 0 ars.length,.osl (B+45) (st.gen (B+45)) 5 0 0]∧st.obj (B+12)=some (bP vs)∧st.obj (B+32)=some (ym ars)∧st.obj (B+45)=some []∧st.obj 125=some (rdC ts n' fin)∧InF B g ob st.gen st.obj∧(∀i,B+65≤i→st.obj i=none)∧
    ((lY ts j vs ars n').bind fun h n=>(mh ts k n).bind fun f n=>(lZ ts k [f] n).bind fun fs n=>PR.ok (Src.Prog.mk h.1 h.2 fs) n)=p) ts.length ?_ ?_
 ·simp only[St.claimAt]
  refine⟨k,0,[],[],a6,a7,a7,a6,?_⟩
  simp only[go_sem,n1,n2]
  exact⟨⟨_,_,_,rfl,rfl,rfl⟩,rfl,rfl,ho,(InF.go hin),(fi hf1),hp⟩
 clear hf1 hin hp
 rintro z f g1 ob1 ⟨j,n',vs,ars,hz,hvs,hars,hj,q0,q2,q3,⟨a,b,c,o2⟩,o3,o12,o32,o45,o125,hin,hf1,hp⟩
 simp only at q0 q2 q3 o2 o3 o12 o32 o45 o125 hin hf1
 obtain⟨j,rfl⟩:∃i,j=i+1:=⟨j-1,a6⟩
 rw[lY] at hp
 have hg:=hin.rd
 have hcv:=qL vs
 have hca:=Gc ars
 simp only[go_sem,q0]
 refine bV ts n' fin [118,97,114] aa rfl (by simp only[go_sem,n1,n2,hg,q0]) (B+65) a6 (fi hf1) (by simp only[go_sem,n1,n2,o125]) a6 (fun h=>?_) (fun h=>?_)
 ·rw[if_pos h] at hp
  have hlt:=Src.cC h a7
  simp only[go_sem,n1,n2,q0]
  obtain⟨ls,m',hgl,hlook⟩:=LI (eg ts j (n'+1)) (G:=fun l=>l.length≤100000) [] a7 (fun l m h=>by have:=Src.AW h;have:=Src.qX l m h;omega)
  refine jx (∃a m,eg ts j (n'+1)=.ok a m) aP mixed aa [B+12,125] [([3],[1],[],false),([8],[1],[],false),([0],[],[],false),([10],[],[1],false),([9,11],[],[0],false),([3],[0,1],[],false),([13,12],[],[],true)] 2 rfl b9 rfl (by simp;omega) ?_
  simp only[go_sem]
  (apply bC;(case hf=>rfl);(case hg=>first|exact w7|exact⟨_,rfl,by decide,rfl⟩);(case h1=>intro fa ga oa K' hK;simp only[go_sem,n1,n2,q3,o3] at hK ⊢;exact hK))
  (apply bC;(case hf=>rfl);(case hg=>first|exact w7|exact⟨_,rfl,by decide,rfl⟩);(case h1=>intro fa ga oa K' hK;simp only[go_sem,n1,n2,q3,o3] at hK ⊢;exact hK))
  (apply bC;(case hf=>rfl);(case hg=>first|exact w7|exact⟨_,rfl,by decide,rfl⟩);(case h1=>intro fa ga oa K' hK;simp only[go_sem,q0] at hK ⊢;exact hK))
  refine jy (v:=jP ls) (y:=some (rdC ts m' fin)) w7 a7 (fun fa ga oa K' hK=>?_) ?_
  ·simp only[go_sem,n1,n2] at hK ⊢
   refine ar (k:=bx K') aa rfl (wQ hl (k:=j) (n:=n'+1) a6 a6) (by simp only[go_sem,n1,n2,hg];all_goals rfl) (B+65) a6 (fi hf1) (by simp only[go_sem,n1,n2]) (InF.go hin) (fun m h=>by rw[←hp,h];rfl) ?_
   exact VY
  refine iU (a:=0) (v:=.one (.osl (B+12) (nxC (apC 9 (g1 (B+12)) 0) (g1 (B+12))) 1 0 (vs.length+ls.length))) (x:=nxC (apC 9 (g1 (B+12)) 0) (g1 (B+12))) (y:=some (bP (vs++ls))) rfl w7 (fun fa ga oa K' hK=>?_) ?_
  ·simp only[go_sem,n1,n2,jP,o12,hcv,aH,j4] at hK ⊢
   have e1:List.take vs.length (bP vs)++List.map C.d (List.map (fun s=>([D.str s]:List D)) ls).flatten=bP (vs++ls):=by
    rw[l7 a6,BQ]
    simp[bP]
   exact Yd
  (apply bC;(case hf=>rfl);(case hg=>first|exact w7|exact⟨_,rfl,by decide,rfl⟩);(case h1=>intro fa ga oa K' hK;simp only[go_sem,n1,n2,q3,o3] at hK ⊢;exact hK))
  refine jz rfl w7 ?_
  intro K' hK'
  simp only[go_sem,n1,n2,o3]
  refine hK' _ ?_
  clear hK' K'
  intro hz'
  have e:=hlook hz'
  rw[e,PR.bind_ok] at hp
  have hm1:=Src.qX ls m' e
  have hm2:=Src.uj ls m' e
  have hm3:=Src.AW e
  simp only[go_sem,n1,n2,q0]
  refine bK ts m' fin aa rfl [[59]] (B+38) (by simp only[go_sem,n1,n2,hg];all_goals rfl) (B+65) a6 (fi hf1) (by simp only[go_sem,n1,n2]) (by simp;omega) a6 a6 (by simp only[go_sem,n1,n2,bP]) (InF.go hin) (fun m h=>by rw[←hp,show Src.kn=[59] from rfl,h];rfl) ?_
  intro m4 hm
  rw[show Src.kn=[59] from rfl,hm,PR.bind_ok] at hp
  have hm4:=Src.cj (ts:=ts) a7 () m4 hm
  have hm5:=Src.cg () m4 hm
  simp only[go_sem,n1,n2]
  refine ah (ts.length-m4) a6 ⟨j,m4,vs++ls,ars,a6,by rw[j5];omega,a6,a6,?_⟩
  simp only[go_sem,n1,n2,q0,q2,q3,j5]
  exact⟨⟨_,_,_,o2⟩,o32,o45,(InF.go hin),(fi hf1),hp⟩
 rw[if_neg h] at hp
 simp only[go_sem,n1,n2,q0]
 refine bV ts n' fin [97,114,114,97,121] aa rfl (by simp only[go_sem,n1,n2,hg,q0]) (B+65) a6 (fi hf1) (by simp only[go_sem,n1,n2,o125]) a6 (fun h=>?_) (fun h=>?_)
 ·rw[if_pos h] at hp
  have hlt:=Src.cC h a7
  simp only[go_sem,n1,n2,q0]
  refine ar aa rfl (mQ ts (n'+1) fin 1 a6 a8) (by simp only[go_sem,n1,n2,hg,q0];all_goals rfl) (B+65) a6 (fi hf1) (by simp only[go_sem,n1,n2]) (InF.go hin) (fun m h=>by rw[←hp,h];rfl) ?_
  intro t m3 ht
  rw[ht,PR.bind_ok] at hp
  have hm3:=Src.jg t m3 ht
  have hm4:=Src.fC t m3 ht
  unfold nH lJ
  simp only[go_sem,n1,n2,q0]
  refine bK ts m3 fin aa rfl [[91]] (B+20) (by simp only[go_sem,n1,n2,hg,q0];all_goals rfl) (B+65) a6 (fi hf1) (by simp only[go_sem,n1,n2]) (by simp;omega) a6 a6 (by simp only[go_sem,n1,n2,bP]) (InF.go hin) (fun m h=>by rw[←hp,h];rfl) ?_
  intro m5 hm
  rw[hm,PR.bind_ok] at hp
  have hm5:=Src.cj (ts:=ts) a7 () m5 hm
  have hm6:=Src.cg () m5 hm
  simp only[go_sem,n1,n2,q0]
  refine ar aa rfl (mQ ts m5 fin 2 a6 a8) (by simp only[go_sem,n1,n2,hg,q0];all_goals rfl) (B+65) a6 (fi hf1) (by simp only[go_sem,n1,n2]) (InF.go hin) (fun m h=>by rw[←hp,h];rfl) ?_
  intro t2 m7 ht2
  rw[ht2,PR.bind_ok] at hp
  have hm7:=Src.jg t2 m7 ht2
  have hm8:=Src.fC t2 m7 ht2
  have hw2:IntKind.i64.wrap (t2.num:Int)=(t2.num:Int):=by
   have:t2∈ts:=by
    unfold takeN at ht2
    split at ht2
    ·rename_i t' ht'
     split at ht2
     ·cases ht2;exact l0 ht'
     ·cases ht2
    ·cases ht2
   have:=hnum t2 this
   rw[wrap_i64] <;> omega
  unfold nH lJ
  simp only[go_sem,n1,n2,q0,hw2,q3,o3,o32,hca,aH]
  refine⟨a6,⟨a8,a6⟩,?_⟩
  have e1:List.take (ars.length*2) (ym ars)++[C.d (D.str t.text),C.d (D.int IntKind.i64 ↑t2.num)]=ym (ars++[(t.text,(t2.num:Int))]):=by
   rw[l7 a6]
   simp[ym,arD]
  rw[e1]
  refine bK ts m7 fin aa rfl [[93]] (B+35) (by simp only[go_sem,n1,n2,hg,q0];all_goals rfl) (B+65) a6 (fi hf1) (by simp only[go_sem,n1,n2]) (by simp;omega) a6 a6 (by simp only[go_sem,n1,n2,bP]) (InF.go hin) (fun m h=>by rw[←hp,h];rfl) ?_
  intro m9 hm
  rw[hm,PR.bind_ok] at hp
  have hm9:=Src.cj (ts:=ts) a7 () m9 hm
  have hm10:=Src.cg () m9 hm
  simp only[go_sem,n1,n2,q0]
  refine bK ts m9 fin aa rfl [[59]] (B+38) (by simp only[go_sem,n1,n2,hg,q0];all_goals rfl) (B+65) a6 (fi hf1) (by simp only[go_sem,n1,n2]) (by simp;omega) a6 a6 (by simp only[go_sem,n1,n2,bP]) (InF.go hin) (fun m h=>by rw[←hp,show Src.kn=[59] from rfl,h];rfl) ?_
  intro m11 hm
  rw[show Src.kn=[59] from rfl,hm,PR.bind_ok] at hp
  have hm11:=Src.cj (ts:=ts) a7 () m11 hm
  have hm12:=Src.cg () m11 hm
  simp only[go_sem,n1,n2]
  refine ah (ts.length-m11) a6 ⟨j,m11,vs,ars++[(t.text,(t2.num:Int))],a6,a6,by rw[j5];simp;omega,a6,?_⟩
  simp only[go_sem,n1,n2,q0,q2,q3,j5]
  exact⟨⟨_,_,_,o2⟩,o12,o45,(InF.go hin),(fi hf1),hp⟩
 rw[if_neg h,PR.bind_ok] at hp
 simp only at hp
 simp only[go_sem,n1,n2,q0]
 obtain⟨f0,m0,hlook⟩:=look (mh ts k n')
 refine jx (∃a m,mh ts k n'=.ok a m) aP mixed aa [B+44,B+45,125] [([3],[0,2],[],false),([40],[0,2],[],false),([0],[],[],false),([42],[],[2],false),([43],[],[0],false),([41,44],[],[1],false),([3],[0,1,2],[],false),([46,45],[],[],true)] 3 rfl b9 rfl (by simp;omega) ?_
 simp only[go_sem]
 (apply bC;(case hf=>rfl);(case hg=>first|exact w7|exact⟨_,rfl,by decide,rfl⟩);(case h1=>intro fa ga oa K' hK;simp only[go_sem,n1,n2,q3,o3] at hK ⊢;exact hK))
 (apply bC;(case hf=>rfl);(case hg=>first|exact w7|exact⟨_,rfl,by decide,rfl⟩);(case h1=>intro fa ga oa K' hK;simp only[go_sem,n1,n2,q3,o3] at hK ⊢;exact hK))
 (apply bC;(case hf=>rfl);(case hg=>first|exact w7|exact⟨_,rfl,by decide,rfl⟩);(case h1=>intro fa ga oa K' hK;simp only[go_sem,q0] at hK ⊢;exact hK))
 refine jy (v:=fnV f0) (y:=some (rdC ts m0 fin)) w7 a7 (fun fa ga oa K' hK=>?_) ?_
 ·simp only[go_sem,n1,n2] at hK ⊢
  refine ar (k:=bx K') aa rfl (LG hl (k:=k) (n:=n') a6 a6) (by simp only[go_sem,n1,n2,hg];all_goals rfl) (B+65) a6 (fi hf1) (by simp only[go_sem,n1,n2,o125]) (InF.go hin) (fun m h=>by rw[←hp,h];rfl) ?_
  exact VY
 (apply iU;(case hf=>rfl);(case hg=>first|exact w7|exact⟨_,rfl,by decide,rfl⟩);(case h1=>intro fa ga oa K' hK;simp only[go_sem,fnV,fnD] at hK ⊢;exact hK))
 refine iU (a:=1) (v:=.one (.osl (B+45) (nxC (apC 56 (g1 (B+45)) 0) (g1 (B+45))) 5 0 1)) (x:=nxC (apC 56 (g1 (B+45)) 0) (g1 (B+45))) (y:=some (fnC [f0])) rfl w7 (fun fa ga oa K' hK=>?_) ?_
 ·simp only[go_sem,n1,n2,o45,aH,j4,BR,fnD] at hK ⊢
  exact⟨⟨a8,a6⟩,hK⟩
 (apply bC;(case hf=>rfl);(case hg=>first|exact w7|exact⟨_,rfl,by decide,rfl⟩);(case h1=>intro fa ga oa K' hK;simp only[go_sem,n1,n2,q3,o3] at hK ⊢;exact hK))
 refine jz rfl w7 ?_
 intro K' hK'
 simp only[go_sem,n1,n2,o3]
 refine hK' _ ?_
 clear hK' K'
 intro hz'
 have e:=hlook hz'
 rw[e,PR.bind_ok] at hp
 have hm1:=Src.Ck f0 m0 e
 have hm2:=Src.Sl f0 m0 e
 simp only[go_sem,n1,n2,q0]
 refine ak (fun z st=>∃(j n'':Nat) (fs:List Src.Fn),z+n''=ts.length∧fs.length≤n''∧4*(ts.length-n'')+6≤j∧st.f 0=.one (.ptr 125 (g 125) 0)∧st.f 2=.one (.ptr (B+2) (st.gen (B+2)) 0)∧st.f 3=.one (.ptr (B+3) (st.gen (B+3)) 0)∧(∃a b c,st.obj (B+2)=some [a,b,c])∧
   st.obj (B+3)=some [.osl (B+12) (st.gen (B+12)) 1 0 vs.length,.osl (B+32) (st.gen (B+32)) 2 0 ars.length,.osl (B+45) (st.gen (B+45)) 5 0 fs.length]∧st.obj (B+12)=some (bP vs)∧st.obj (B+32)=some (ym ars)∧st.obj (B+45)=some (fnC fs)∧st.obj 125=some (rdC ts n'' fin)∧InF B g ob st.gen st.obj∧(∀i,B+65≤i→st.obj i=none)∧
   ((lZ ts j fs n'').bind fun fs n=>PR.ok (Src.Prog.mk vs ars fs) n)=p) (ts.length-m0) ?_ ?_
 ·refine⟨k,m0,[f0],a6,by simp;omega,a6,?_⟩
  simp only[go_sem,n1,n2,q0,q2,q3]
  exact⟨⟨_,_,_,o2⟩,o12,o32,(InF.go hin),(fi hf1),hp⟩
 clear hf1 hin hp q0 q2 q3 o2 o3 o12 o32 o45 o125 hlook hz' e hg
 rintro z f g1 ob1 ⟨j,n'',fs,hz,hfs,hj,q0,q2,q3,⟨a,b,c,o2⟩,o3,o12,o32,o45,o125,hin,hf1,hp⟩
 simp only at q0 q2 q3 o2 o3 o12 o32 o45 o125 hin hf1
 obtain⟨j,rfl⟩:∃i,j=i+1:=⟨j-1,a6⟩
 rw[lZ] at hp
 have hg:=hin.rd
 have o125':=o125
 unfold rdC iD at o125'
 have hcf:=Jf fs
 simp only[go_sem]
 refine aL b9 ?_
 by_cases hlt:n''<ts.length
 case neg=>
  rw[if_neg hlt,PR.bind_ok] at hp
  have hli:¬(n'':Int)<(ts.length:Int):=a6
  simp only[go_sem,n1,n2,hg,q0,o125',hli,j4,q2,q3,o2,o3]
  refine⟨_,ag.refl _,?_⟩
  simp only[go_sem,n1,n2,q2]
  refine InF.ret (n:=n'') (a:=⟨vs,ars,fs⟩) (rs:=[.agg [.d (.sl (vs.map fun s=>[.str s])),.d (.sl (ars.map arD)),.d (.sl (fs.map fnD))]]) (InF.go hin) (by simp only[go_sem,n1,n2,o125]) hp.symm ?_ rfl
  exact⟨_,_,rfl,.agg (xs:=[.sl (vs.map fun s=>[.str s]),.sl (ars.map arD),.sl (fs.map fnD)]) rfl (fun i e he=>by
   match i,he with
   |0,he=>cases he;exact⟨_,rfl,BP a6 (by simp only[go_sem,n1,n2]) (by simp only[go_sem,n1,n2,o12]) rfl⟩
   |1,he=>cases he;exact⟨_,rfl,No a6 (by simp only[go_sem,n1,n2]) (by simp only[go_sem,n1,n2,o32]) rfl⟩
   | 2,he=>cases he;exact⟨_,rfl,RO a6 (by simp only[go_sem,n1,n2]) (by simp only[go_sem,n1,n2,o45]) rfl⟩),rfl⟩
 rw[if_pos hlt] at hp
 have hli:(n'':Int)<(ts.length:Int):=a6
 simp only[go_sem,n1,n2,hg,q0,o125',hli,j4]
 obtain⟨f1,m1,hlook⟩:=look (mh ts j n'')
 refine jx (∃a m,mh ts j n''=.ok a m) aP mixed aa [B+61,B+45,125] [([3],[0,2],[],false),([57],[0,2],[],false),([0],[],[],false),([59],[],[2],false),([60],[],[0],false),([58,61],[],[1],false),([3],[0,1,2],[],false),([63,62],[],[],true)] 3 rfl b9 rfl (by simp;omega) ?_
 simp only[go_sem]
 (apply bC;(case hf=>rfl);(case hg=>first|exact w7|exact⟨_,rfl,by decide,rfl⟩);(case h1=>intro fa ga oa K' hK;simp only[go_sem,n1,n2,q3,o3] at hK ⊢;exact hK))
 (apply bC;(case hf=>rfl);(case hg=>first|exact w7|exact⟨_,rfl,by decide,rfl⟩);(case h1=>intro fa ga oa K' hK;simp only[go_sem,n1,n2,q3,o3] at hK ⊢;exact hK))
 (apply bC;(case hf=>rfl);(case hg=>first|exact w7|exact⟨_,rfl,by decide,rfl⟩);(case h1=>intro fa ga oa K' hK;simp only[go_sem,q0] at hK ⊢;exact hK))
 refine jy (v:=fnV f1) (y:=some (rdC ts m1 fin)) w7 a7 (fun fa ga oa K' hK=>?_) ?_
 ·simp only[go_sem,n1,n2] at hK ⊢
  refine ar (k:=bx K') aa rfl (LG hl (k:=j) (n:=n'') a6 a6) (by simp only[go_sem,n1,n2,hg];all_goals rfl) (B+65) a6 (fi hf1) (by simp only[go_sem,n1,n2,o125]) (InF.go hin) (fun m h=>by rw[←hp,h];rfl) ?_
  exact VY
 (apply iU;(case hf=>rfl);(case hg=>first|exact w7|exact⟨_,rfl,by decide,rfl⟩);(case h1=>intro fa ga oa K' hK;simp only[go_sem,fnV,fnD] at hK ⊢;exact hK))
 refine iU (a:=1) (v:=.one (.osl (B+45) (nxC (apC 56 (g1 (B+45)) 0) (g1 (B+45))) 5 0 (fs.length+1))) (x:=nxC (apC 56 (g1 (B+45)) 0) (g1 (B+45))) (y:=some (fnC (fs++[f1]))) rfl w7 (fun fa ga oa K' hK=>?_) ?_
 ·simp only[go_sem,n1,n2,o45,aH,j4,hcf] at hK ⊢
  have e1:List.take (fs.length*5) (fnC fs)++(fnD f1).map C.d=fnC (fs++[f1]):=by
   rw[l7 a6,Jg,BR]
  simp only[fnD,l5,v8] at e1
  exact Xx
 (apply bC;(case hf=>rfl);(case hg=>first|exact w7|exact⟨_,rfl,by decide,rfl⟩);(case h1=>intro fa ga oa K' hK;simp only[go_sem,n1,n2,q3,o3] at hK ⊢;exact hK))
 refine jz rfl w7 ?_
 intro K' hK'
 simp only[go_sem,n1,n2,o3]
 refine hK' _ ?_
 clear hK' K'
 intro hz'
 have e:=hlook hz'
 rw[e,PR.bind_ok] at hp
 have hm3:=Src.Ck f1 m1 e
 have hm4:=Src.Sl f1 m1 e
 simp only[go_sem,n1,n2,q0]
 refine ah (ts.length-m1) a6 ⟨j,m1,fs++[f1],a6,by rw[j5];simp;omega,a6,?_⟩
 simp only[go_sem,n1,n2,q0,q2,q3,j5]
 exact⟨⟨_,_,_,o2⟩,o12,o32,(InF.go hin),(fi hf1),hp⟩
end
end
end Go.Proofs.YtgbcmokfgbmabaaGreatDoorR
namespace Go.Src
section
open Go.Asm (Str letter dS)
def aR (s:Str):Bool:=decide (s≠[]∧s.length≤20∧s.head?.any letter=true∧s.takeWhile dS=s∧s∉gz)
def ai (named:Bool) (s:Str):Bool:=if named then aR s else decide (s=[])
def br (kind op num:Int) (name:Str) (n:Nat):Bool:=
 if kind=1 then decide (op=0) && ai false name && decide (n=0)
 else if kind=2 then decide (op=0∧num=0) && ai true name && decide (n=0)
 else if kind=3 then decide (op=0∧num=0) && ai true name && decide (n=1)
 else if kind=4 then decide (op=0∧num=0) && ai true name && decide (n≤6)
 else if kind=5 then decide (op=0∧num=0) && ai false name && decide (n=0)
 else if kind=6 then decide ((4≤op∧op≤15)∧num=0) && ai false name && decide (n=2)
 else if kind=7 then decide (op=0∧num=0) && ai false name && decide (n=1)
 else if kind=8∨kind=9 then decide (op=0∧num=0) && ai false name && decide (n=2)
 else false
mutual
def ft (lv:Nat):Ex→Bool
 |.mk kind op num name kids=>decide (lv≤24)&&(br kind op num name kids.length&&bb (lv+1) kids)
def bb (lv:Nat):List Ex→Bool
 |[]=>true
 |e::l=>ft lv e&&bb lv l
end
def bX (kind:Int) (name:Str) (n nt ne:Nat):Bool:=
 if kind=1 then ai true name && decide (n=1∧nt=0∧ne=0)
 else if kind=2 then ai true name && decide (n=2∧nt=0∧ne=0)
 else if kind=3 then ai false name && decide (n=1∧nt=0∧ne=0)
 else if kind=4 then ai false name && decide (n=1)
 else if kind=5 then ai false name && decide (n=1∧ne=0)
 else if kind=6 then ai true name && decide (n≤6∧nt=0∧ne=0)
 else if kind=7 then ai false name && decide (n≤1∧nt=0∧ne=0)
 else false
mutual
def fc (lv:Nat):Stm→Bool
 |.mk kind name e th el=>decide (lv≤24)&&(bX kind name e.length th.length el.length&&bb (lv+1) e)&&(aX (lv+1) th&&aX (lv+1) el)
def aX (lv:Nat):List Stm→Bool
 |[]=>true
 |s::l=>fc lv s&&aX lv l
end
def eL (f:Fn):Bool:=aR f.name&&decide (f.params.length≤6)&&(f.params.all aR&&f.locals.all aR&&aX 1 f.body)
def gk (a:Str×Int):Bool:=aR a.1&&decide (1≤a.2)&&decide (a.2≤4096)
def dw (p:Prog):Bool:=decide (1≤p.funcs.length∧p.funcs.length≤64)&&p.vars.all aR&&(p.arrays.all gk&&p.funcs.all eL)
mutual
def szE:Ex→Nat
 |.mk _ _ _ _ kids=>aG kids+1
def aG:List Ex→Nat
 |[]=>0
 |e::l=>szE e+aG l
end
mutual
def szS:Stm→Nat
 |.mk _ _ e th el=>aG e+au th+au el+1
def au:List Stm→Nat
 |[]=>0
 |s::l=>szS s+au l
end
theorem Kv:∀{l:List Ex}{e:Ex},e∈l→szE e≤aG l
 |x::l,e,h=>by
   rw[aG]
   rcases z6.1 h with rfl|h
   ·omega
   ·have:=Kv h;omega
theorem Kw:∀{l:List Stm}{e:Stm},e∈l→szS e≤au l
 |x::l,e,h=>by
   rw[au]
   rcases z6.1 h with rfl|h
   ·omega
   ·have:=Kw h;omega
theorem Hl:∀l:List Ex,l.length≤aG l
 |[]=>j8 _
 |e::l=>by have:=Hl l;cases e;simp only[aG,szE,j6];omega
theorem Hm:∀l:List Stm,l.length≤au l
 |[]=>j8 _
 |e::l=>by have:=Hm l;cases e;simp only[au,szS,j6];omega
theorem za {lv:Nat}:∀l:List Ex,bb lv l=l.all (ft lv)
 |[]=>by simp[bb]
 |e::l=>by simp[bb,za l]
theorem zb {lv:Nat}:∀l:List Stm,aX lv l=l.all (fc lv)
 |[]=>by simp[aX]
 |e::l=>by simp[aX,zb l]
theorem Sn {α:Type}{p:α→Bool}{l:List α}{k:Nat}{x:α} (h:(l.take k).all p=true) (hx:l[k]? = some x) (hp:p x=true):(l.take (k+1)).all p=true:=by
 rw[B4,hx,G6,h];simp[hp]
theorem all_false {α:Type}{p:α→Bool}{l:List α}{k:Nat}{x:α} (hx:l[k]? = some x) (hp:p x=false):l.all p=false:=by
 rw[List.all_eq_false]
 exact⟨x,l0 hx,by simp[hp]⟩
end
end Go.Src
namespace Go.Am
section
section
section
variable {P:Program}{T:Nat→TI}{b₀:Bs}{rd:Option Nat}{gb:Nat}{o:cn}{Ψ:fO}{B0:Nat}
end
end
end
end Go.Am
namespace Go.Proofs.YtgbcmokfgbmabaaGreatDoorR
section
attribute [local congr] Go.Am.ite_cc
open Go Go.Am Go.Asm
open Go.Src (aR)
section
variable {o:cn}
theorem Nq (ho:ji o) (s:Str):bI Tryz.prog 3 o 192 [sv s] (· = bv (aR s)):=by
 refine hdG Tryz.func192 rfl [.tmp 2] fun b₀ β0 s0 w0 g=>?_
 obtain⟨z,hz⟩:∃z,aR s=z:=⟨_,rfl⟩
 rw[hz]
 unfold aR at hz
 by_cases hnil:s=[]
 ·obtain rfl:z=false:=by rw[←hz];exact y7 fun h=>h.1 hnil
  simp only[go_sem,l9 hnil]
 by_cases hlen:s.length≤20
 case neg=>
  obtain rfl:z=false:=by rw[←hz];exact y7 fun h=>hlen h.2.1
  have hli:¬(s.length:Int)≤20:=a6
  simp only[go_sem,hnil,hli]
 have hli:(s.length:Int)≤20:=a6
 obtain⟨c,hc⟩:∃c,s[0]? = some c:=by
  cases s with
  |nil=>exact absurd rfl hnil
  |cons c r=>exact⟨c,rfl⟩
 have hhd:s.head? = some c:=by rw[←hc,U0]
 simp only[go_sem,hnil,hli,hc]
 refine gZ rfl (by simp only[go_sem];exact nC c) ?_
 rintro _ rfl
 cases hlc:letter c
 ·obtain rfl:z=false:=by rw[←hz];exact y7 fun h=>by have:=h.2.2.1;rw[hhd] at this;simp[hlc] at this
  exact VE
 simp only[go_sem]
 refine gZ rfl (by simp only[go_sem];exact sx (fun c=>vH c) s a6) ?_
 rintro _ rfl
 by_cases hfr:s.takeWhile dS=s
 case neg=>
  obtain rfl:z=false:=by rw[←hz];exact y7 fun h=>hfr h.2.2.2.1
  simp only[go_sem,hfr]
 simp only[go_sem,hfr]
 refine ck rfl (by simp only[go_sem];exact yL ho s) ?_
 rintro _ rfl
 by_cases hw:s∈Src.gz
 ·obtain rfl:z=false:=by rw[←hz];exact y7 fun h=>h.2.2.2.2 hw
  simp only[go_sem,hw]
 ·obtain rfl:z=true:=by rw[←hz];exact A7 ⟨hnil,hlen,by rw[hhd];simp[hlc],hfr,hw⟩
  simp only[go_sem,hw]
theorem lD (ho:ji o) (s:Str):bI Tryz.prog 3 o 124 [sv s] (· = bv (aR s)):=by
 refine hdG Tryz.func124 rfl [.tmp 2] fun b₀ β0 s0 w0 g=>?_
 have hno:s∈Src.gz→aR s=false:=fun h=>y7 fun h'=>h'.2.2.2.2 h
 obtain⟨z,hz⟩:∃z,aR s=z:=⟨_,rfl⟩
 rw[hz]
 rw[hz] at hno
 by_cases h0:s=[118,97,114]
 ·obtain rfl:=hno (by rw[h0];decide)
  simp only[go_sem,l9 h0]
 by_cases h1:s=[97,114,114,97,121]
 ·obtain rfl:=hno (by rw[h1];decide)
  simp only[go_sem,h0,l9 h1]
 by_cases h2:s=[102,117,110,99]
 ·obtain rfl:=hno (by rw[h2];decide)
  simp only[go_sem,h0,h1,l9 h2]
 by_cases h3:s=[119,111,114,100]
 ·obtain rfl:=hno (by rw[h3];decide)
  simp only[go_sem,h0,h1,h2,l9 h3]
 by_cases h4:s=[105,102]
 ·obtain rfl:=hno (by rw[h4];decide)
  simp only[go_sem,h0,h1,h2,h3,l9 h4]
 by_cases h5:s=[101,108,115,101]
 ·obtain rfl:=hno (by rw[h5];decide)
  simp only[go_sem,h0,h1,h2,h3,h4,l9 h5]
 by_cases h6:s=[119,104,105,108,101]
 ·obtain rfl:=hno (by rw[h6];decide)
  simp only[go_sem,h0,h1,h2,h3,h4,h5,l9 h6]
 by_cases h7:s=[114,101,116,117,114,110]
 ·obtain rfl:=hno (by rw[h7];decide)
  simp only[go_sem,h0,h1,h2,h3,h4,h5,h6,l9 h7]
 by_cases h8:s=[112,117,116]
 ·obtain rfl:=hno (by rw[h8];decide)
  simp only[go_sem,h0,h1,h2,h3,h4,h5,h6,h7,l9 h8]
 by_cases h9:s=[103,101,116]
 ·obtain rfl:=hno (by rw[h9];decide)
  simp only[go_sem,h0,h1,h2,h3,h4,h5,h6,h7,h8,l9 h9]
 simp only[go_sem,h0,h1,h2,h3,h4,h5,h6,h7,h8,h9]
 refine ck rfl (by simp only[go_sem];exact Nq ho s) ?_
 rintro _ rfl
 rw[hz]
 exact VE
theorem bZ (ho:ji o) (s:Str) (b:Bool):bI Tryz.prog 3 o 239 [sv s,bv b] (· = bv (Src.ai b s)):=by
 refine hdG Tryz.func239 rfl [.tmp 4] fun b₀ β0 s0 w0 g=>?_
 unfold Src.ai
 cases b
 ·exact VE
 ·simp only[go_sem]
  refine ck rfl (by simp only[go_sem];exact lD ho s) ?_
  rintro _ rfl
  exact VE
theorem oN (ho:ji o) (l:List Str) (hl:l.length≤1000000000):bI Tryz.prog 3 o 123 [jP l] (· = bv (l.all aR)):=by
 refine hdG Tryz.func123 rfl [.tmp 2] fun b₀ β0 s0 w0 g=>?_
 unfold jP
 simp only[go_sem,j4]
 refine ak (fun z st=>∃k:Nat,z+k=l.length∧(l.take k).all aR=true∧st.f 5=.one (.d (.sl (l.map fun s=>[.str s])))∧st.f 6=iv .i64 l.length∧st.f 7=iv .i64 k) l.length ?_ ?_
 ·exact XP
 rintro z f g1 ob1 ⟨k,hk,hall,q5,q6,q7⟩
 simp only at q5 q6 q7
 have hw:=ab (k:=k) a6
 by_cases hlt:k<l.length
 case neg=>
  have hki:¬(k:Int)<(l.length:Int):=a6
  obtain rfl:k=l.length:=a6
  rw[l7 (j8 _)] at hall
  simp only[go_sem,q6,q7,hki,hall]
 have hki:(k:Int)<(l.length:Int):=a6
 have hk0:(0:Int)≤(k:Int):=a6
 obtain⟨s,hs⟩:=getq hlt
 simp only[go_sem,q5,q6,q7,hki,hk0,hs]
 refine ck rfl (by simp only[go_sem];exact lD ho s) ?_
 rintro _ rfl
 cases hb:aR s
 ·simp only[go_sem,Src.all_false hs hb]
 ·simp only[go_sem,q7,hw]
  refine ah (z-1) a6 ⟨k+1,a6,Src.Sn hall hs hb,?_⟩
  simp only[go_sem,q5,q6]
end
end
section
attribute [local congr] Go.Am.ite_cc
open Go Go.Am Go.Asm
open Go.Src (aR ai br bX Ex Stm)
theorem Ao {o:cn} (ho:ji o) (e:Ex):bI Tryz.prog 3 o 240 [exV e] (· = bv (match e with|.mk kind op num name kids=>br kind op num name kids.length)):=by
 obtain⟨kind,op,num,name,kids⟩:=e
 refine hdG Tryz.func240 rfl [.tmp 2] fun b₀ β0 s0 w0 g=>?_
 simp only
 obtain⟨z,hz⟩:∃z,br kind op num name kids.length=z:=⟨_,rfl⟩
 rw[hz]
 unfold exV
 simp only[exD,aw,l5,v8]
 unfold br at hz
 by_cases k1:kind=1
 ·rw[if_pos k1] at hz
  by_cases ho0:op=0
  case neg=>
   obtain rfl:z=false:=by rw[←hz];simp[ho0]
   simp only[go_sem,l9 k1,ho0]
  simp only[go_sem,l9 k1,l9 ho0]
  refine ck rfl (by simp only[go_sem];exact bZ ho name false) ?_
  rintro _ rfl
  cases hnm:ai false name
  ·obtain rfl:z=false:=by rw[←hz];simp[hnm]
   simp only[go_sem,l9 k1,l9 ho0]
  by_cases hln:kids.length=0
  case neg=>
   obtain rfl:z=false:=by rw[←hz];simp[hln]
   have hlo:(0:Int)≤(kids.length:Int):=a6
   have hhi:¬(kids.length:Int)≤0:=a6
   simp only[go_sem,l9 k1,l9 ho0,j4,hlo,hhi]
  have hlo:(0:Int)≤(kids.length:Int):=a6
  have hhi:(kids.length:Int)≤0:=a6
  obtain rfl:z=true:=by rw[←hz];simp[ho0,hnm,hln]
  simp only[go_sem,l9 k1,l9 ho0,j4,hlo,hhi]
 by_cases k2:kind=2
 ·rw[if_neg k1,if_pos k2] at hz
  by_cases ho0:op=0
  case neg=>
   obtain rfl:z=false:=by rw[←hz];simp[ho0]
   simp only[go_sem,l9 k2,k1,ho0]
  by_cases hn0:num=0
  case neg=>
   obtain rfl:z=false:=by rw[←hz];simp[hn0]
   simp only[go_sem,l9 k2,k1,l9 ho0,hn0]
  simp only[go_sem,l9 k2,k1,l9 ho0,l9 hn0]
  refine ck rfl (by simp only[go_sem];exact bZ ho name true) ?_
  rintro _ rfl
  cases hnm:ai true name
  ·obtain rfl:z=false:=by rw[←hz];simp[hnm]
   simp only[go_sem,l9 k2,k1,l9 ho0,l9 hn0]
  by_cases hln:kids.length=0
  case neg=>
   obtain rfl:z=false:=by rw[←hz];simp[hln]
   have hlo:(0:Int)≤(kids.length:Int):=a6
   have hhi:¬(kids.length:Int)≤0:=a6
   simp only[go_sem,l9 k2,k1,l9 ho0,l9 hn0,j4,hlo,hhi]
  have hlo:(0:Int)≤(kids.length:Int):=a6
  have hhi:(kids.length:Int)≤0:=a6
  obtain rfl:z=true:=by rw[←hz];simp[ho0,hn0,hnm,hln]
  simp only[go_sem,l9 k2,k1,l9 ho0,l9 hn0,j4,hlo,hhi]
 by_cases k3:kind=3
 ·rw[if_neg k1,if_neg k2,if_pos k3] at hz
  by_cases ho0:op=0
  case neg=>
   obtain rfl:z=false:=by rw[←hz];simp[ho0]
   simp only[go_sem,l9 k3,k1,k2,ho0]
  by_cases hn0:num=0
  case neg=>
   obtain rfl:z=false:=by rw[←hz];simp[hn0]
   simp only[go_sem,l9 k3,k1,k2,l9 ho0,hn0]
  simp only[go_sem,l9 k3,k1,k2,l9 ho0,l9 hn0]
  refine ck rfl (by simp only[go_sem];exact bZ ho name true) ?_
  rintro _ rfl
  cases hnm:ai true name
  ·obtain rfl:z=false:=by rw[←hz];simp[hnm]
   simp only[go_sem,l9 k3,k1,k2,l9 ho0,l9 hn0]
  by_cases hln:kids.length=1
  case neg=>
   obtain rfl:z=false:=by rw[←hz];simp[hln]
   by_cases hlo:(1:Int)≤(kids.length:Int)
   ·have hhi:¬(kids.length:Int)≤1:=a6
    simp only[go_sem,l9 k3,k1,k2,l9 ho0,l9 hn0,j4,hlo,hhi]
   ·simp only[go_sem,l9 k3,k1,k2,l9 ho0,l9 hn0,j4,hlo]
  have hlo:(1:Int)≤(kids.length:Int):=a6
  have hhi:(kids.length:Int)≤1:=a6
  obtain rfl:z=true:=by rw[←hz];simp[ho0,hn0,hnm,hln]
  simp only[go_sem,l9 k3,k1,k2,l9 ho0,l9 hn0,j4,hlo,hhi]
 by_cases k4:kind=4
 ·rw[if_neg k1,if_neg k2,if_neg k3,if_pos k4] at hz
  by_cases ho0:op=0
  case neg=>
   obtain rfl:z=false:=by rw[←hz];simp[ho0]
   simp only[go_sem,l9 k4,k1,k2,k3,ho0]
  by_cases hn0:num=0
  case neg=>
   obtain rfl:z=false:=by rw[←hz];simp[hn0]
   simp only[go_sem,l9 k4,k1,k2,k3,l9 ho0,hn0]
  simp only[go_sem,l9 k4,k1,k2,k3,l9 ho0,l9 hn0]
  refine ck rfl (by simp only[go_sem];exact bZ ho name true) ?_
  rintro _ rfl
  cases hnm:ai true name
  ·obtain rfl:z=false:=by rw[←hz];simp[hnm]
   simp only[go_sem,l9 k4,k1,k2,k3,l9 ho0,l9 hn0]
  have hlo:(0:Int)≤(kids.length:Int):=a6
  by_cases hln:kids.length≤6
  case neg=>
   obtain rfl:z=false:=by rw[←hz];simp;omega
   have hhi:¬(kids.length:Int)≤6:=a6
   simp only[go_sem,l9 k4,k1,k2,k3,l9 ho0,l9 hn0,j4,hlo,hhi]
  have hhi:(kids.length:Int)≤6:=a6
  obtain rfl:z=true:=by rw[←hz];simp[ho0,hn0,hnm,hln]
  simp only[go_sem,l9 k4,k1,k2,k3,l9 ho0,l9 hn0,j4,hlo,hhi]
 by_cases k5:kind=5
 ·rw[if_neg k1,if_neg k2,if_neg k3,if_neg k4,if_pos k5] at hz
  by_cases ho0:op=0
  case neg=>
   obtain rfl:z=false:=by rw[←hz];simp[ho0]
   simp only[go_sem,l9 k5,k1,k2,k3,k4,ho0]
  by_cases hn0:num=0
  case neg=>
   obtain rfl:z=false:=by rw[←hz];simp[hn0]
   simp only[go_sem,l9 k5,k1,k2,k3,k4,l9 ho0,hn0]
  simp only[go_sem,l9 k5,k1,k2,k3,k4,l9 ho0,l9 hn0]
  refine ck rfl (by simp only[go_sem];exact bZ ho name false) ?_
  rintro _ rfl
  cases hnm:ai false name
  ·obtain rfl:z=false:=by rw[←hz];simp[hnm]
   simp only[go_sem,l9 k5,k1,k2,k3,k4,l9 ho0,l9 hn0]
  by_cases hln:kids.length=0
  case neg=>
   obtain rfl:z=false:=by rw[←hz];simp[hln]
   have hlo:(0:Int)≤(kids.length:Int):=a6
   have hhi:¬(kids.length:Int)≤0:=a6
   simp only[go_sem,l9 k5,k1,k2,k3,k4,l9 ho0,l9 hn0,j4,hlo,hhi]
  have hlo:(0:Int)≤(kids.length:Int):=a6
  have hhi:(kids.length:Int)≤0:=a6
  obtain rfl:z=true:=by rw[←hz];simp[ho0,hn0,hnm,hln]
  simp only[go_sem,l9 k5,k1,k2,k3,k4,l9 ho0,l9 hn0,j4,hlo,hhi]
 by_cases k6:kind=6
 ·rw[if_neg k1,if_neg k2,if_neg k3,if_neg k4,if_neg k5,if_pos k6] at hz
  by_cases hol:op<4
  case pos=>
   have hx:¬4≤op:=a6
   obtain rfl:z=false:=by rw[←hz];simp[hx]
   simp only[go_sem,l9 k6,k1,k2,k3,k4,k5,hol]
  by_cases hoh:15<op
  case pos=>
   have hx:¬op≤15:=a6
   obtain rfl:z=false:=by rw[←hz];simp[hx]
   simp only[go_sem,l9 k6,k1,k2,k3,k4,k5,hol,hoh]
  have hx1:4≤op:=a6
  have hx2:op≤15:=a6
  by_cases hn0:num=0
  case neg=>
   obtain rfl:z=false:=by rw[←hz];simp[hn0]
   simp only[go_sem,l9 k6,k1,k2,k3,k4,k5,hol,hoh,hn0]
  simp only[go_sem,l9 k6,k1,k2,k3,k4,k5,hol,hoh,l9 hn0]
  refine ck rfl (by simp only[go_sem];exact bZ ho name false) ?_
  rintro _ rfl
  cases hnm:ai false name
  ·obtain rfl:z=false:=by rw[←hz];simp[hnm]
   simp only[go_sem,l9 k6,k1,k2,k3,k4,k5,hol,hoh,l9 hn0]
  by_cases hln:kids.length=2
  case neg=>
   obtain rfl:z=false:=by rw[←hz];simp[hln]
   by_cases hlo:(2:Int)≤(kids.length:Int)
   ·have hhi:¬(kids.length:Int)≤2:=a6
    simp only[go_sem,l9 k6,k1,k2,k3,k4,k5,hol,hoh,l9 hn0,j4,hlo,hhi]
   ·simp only[go_sem,l9 k6,k1,k2,k3,k4,k5,hol,hoh,l9 hn0,j4,hlo]
  have hlo:(2:Int)≤(kids.length:Int):=a6
  have hhi:(kids.length:Int)≤2:=a6
  obtain rfl:z=true:=by rw[←hz];simp[hx1,hx2,hn0,hnm,hln]
  simp only[go_sem,l9 k6,k1,k2,k3,k4,k5,hol,hoh,l9 hn0,j4,hlo,hhi]
 by_cases k7:kind=7
 ·rw[if_neg k1,if_neg k2,if_neg k3,if_neg k4,if_neg k5,if_neg k6,if_pos k7] at hz
  by_cases ho0:op=0
  case neg=>
   obtain rfl:z=false:=by rw[←hz];simp[ho0]
   simp only[go_sem,l9 k7,k1,k2,k3,k4,k5,k6,ho0]
  by_cases hn0:num=0
  case neg=>
   obtain rfl:z=false:=by rw[←hz];simp[hn0]
   simp only[go_sem,l9 k7,k1,k2,k3,k4,k5,k6,l9 ho0,hn0]
  simp only[go_sem,l9 k7,k1,k2,k3,k4,k5,k6,l9 ho0,l9 hn0]
  refine ck rfl (by simp only[go_sem];exact bZ ho name false) ?_
  rintro _ rfl
  cases hnm:ai false name
  ·obtain rfl:z=false:=by rw[←hz];simp[hnm]
   simp only[go_sem,l9 k7,k1,k2,k3,k4,k5,k6,l9 ho0,l9 hn0]
  by_cases hln:kids.length=1
  case neg=>
   obtain rfl:z=false:=by rw[←hz];simp[hln]
   by_cases hlo:(1:Int)≤(kids.length:Int)
   ·have hhi:¬(kids.length:Int)≤1:=a6
    simp only[go_sem,l9 k7,k1,k2,k3,k4,k5,k6,l9 ho0,l9 hn0,j4,hlo,hhi]
   ·simp only[go_sem,l9 k7,k1,k2,k3,k4,k5,k6,l9 ho0,l9 hn0,j4,hlo]
  have hlo:(1:Int)≤(kids.length:Int):=a6
  have hhi:(kids.length:Int)≤1:=a6
  obtain rfl:z=true:=by rw[←hz];simp[ho0,hn0,hnm,hln]
  simp only[go_sem,l9 k7,k1,k2,k3,k4,k5,k6,l9 ho0,l9 hn0,j4,hlo,hhi]
 by_cases k8:kind=8
 ·rw[if_neg k1,if_neg k2,if_neg k3,if_neg k4,if_neg k5,if_neg k6,if_neg k7,if_pos (Or.inl k8)] at hz
  by_cases ho0:op=0
  case neg=>
   obtain rfl:z=false:=by rw[←hz];simp[ho0]
   simp only[go_sem,l9 k8,k1,k2,k3,k4,k5,k6,k7,ho0]
  by_cases hn0:num=0
  case neg=>
   obtain rfl:z=false:=by rw[←hz];simp[hn0]
   simp only[go_sem,l9 k8,k1,k2,k3,k4,k5,k6,k7,l9 ho0,hn0]
  simp only[go_sem,l9 k8,k1,k2,k3,k4,k5,k6,k7,l9 ho0,l9 hn0]
  refine ck rfl (by simp only[go_sem];exact bZ ho name false) ?_
  rintro _ rfl
  cases hnm:ai false name
  ·obtain rfl:z=false:=by rw[←hz];simp[hnm]
   simp only[go_sem,l9 k8,k1,k2,k3,k4,k5,k6,k7,l9 ho0,l9 hn0]
  by_cases hln:kids.length=2
  case neg=>
   obtain rfl:z=false:=by rw[←hz];simp[hln]
   by_cases hlo:(2:Int)≤(kids.length:Int)
   ·have hhi:¬(kids.length:Int)≤2:=a6
    simp only[go_sem,l9 k8,k1,k2,k3,k4,k5,k6,k7,l9 ho0,l9 hn0,j4,hlo,hhi]
   ·simp only[go_sem,l9 k8,k1,k2,k3,k4,k5,k6,k7,l9 ho0,l9 hn0,j4,hlo]
  have hlo:(2:Int)≤(kids.length:Int):=a6
  have hhi:(kids.length:Int)≤2:=a6
  obtain rfl:z=true:=by rw[←hz];simp[ho0,hn0,hnm,hln]
  simp only[go_sem,l9 k8,k1,k2,k3,k4,k5,k6,k7,l9 ho0,l9 hn0,j4,hlo,hhi]
 by_cases k9:kind=9
 ·rw[if_neg k1,if_neg k2,if_neg k3,if_neg k4,if_neg k5,if_neg k6,if_neg k7,if_pos (Or.inr k9)] at hz
  by_cases ho0:op=0
  case neg=>
   obtain rfl:z=false:=by rw[←hz];simp[ho0]
   simp only[go_sem,l9 k9,k1,k2,k3,k4,k5,k6,k7,k8,ho0]
  by_cases hn0:num=0
  case neg=>
   obtain rfl:z=false:=by rw[←hz];simp[hn0]
   simp only[go_sem,l9 k9,k1,k2,k3,k4,k5,k6,k7,k8,l9 ho0,hn0]
  simp only[go_sem,l9 k9,k1,k2,k3,k4,k5,k6,k7,k8,l9 ho0,l9 hn0]
  refine ck rfl (by simp only[go_sem];exact bZ ho name false) ?_
  rintro _ rfl
  cases hnm:ai false name
  ·obtain rfl:z=false:=by rw[←hz];simp[hnm]
   simp only[go_sem,l9 k9,k1,k2,k3,k4,k5,k6,k7,k8,l9 ho0,l9 hn0]
  by_cases hln:kids.length=2
  case neg=>
   obtain rfl:z=false:=by rw[←hz];simp[hln]
   by_cases hlo:(2:Int)≤(kids.length:Int)
   ·have hhi:¬(kids.length:Int)≤2:=a6
    simp only[go_sem,l9 k9,k1,k2,k3,k4,k5,k6,k7,k8,l9 ho0,l9 hn0,j4,hlo,hhi]
   ·simp only[go_sem,l9 k9,k1,k2,k3,k4,k5,k6,k7,k8,l9 ho0,l9 hn0,j4,hlo]
  have hlo:(2:Int)≤(kids.length:Int):=a6
  have hhi:(kids.length:Int)≤2:=a6
  obtain rfl:z=true:=by rw[←hz];simp[ho0,hn0,hnm,hln]
  simp only[go_sem,l9 k9,k1,k2,k3,k4,k5,k6,k7,k8,l9 ho0,l9 hn0,j4,hlo,hhi]
 obtain rfl:z=false:=by rw[←hz];simp[k1,k2,k3,k4,k5,k6,k7,k8,k9]
 simp only[go_sem,k1,k2,k3,k4,k5,k6,k7,k8,k9]
end
section
attribute [local congr] Go.Am.ite_cc
open Go Go.Am Go.Asm
open Go.Src (aR ai br bX ft bb szE aG Ex Stm)
theorem wK {o:cn} (ho:ji o):∀(N:Nat) (l:List Ex) (lv:Nat),aG l≤N→N≤1000000000→lv≤25→bI Tryz.prog 3 o 194 [dj l,iv .i64 lv] (· = bv (bb lv l)):=by
 intro N
 induction N using Nat.strongRecOn with
 |ind N ih=>
 intro l lv hsz hN hlv
 refine hdG Tryz.func194 rfl [.tmp 4] fun b₀ β0 s0 w0 g=>?_
 obtain⟨z,hz⟩:∃z,bb lv l=z:=⟨_,rfl⟩
 rw[hz]
 have hll:=Src.Hl l
 have hwl:=ab (k:=lv) a6
 unfold dj
 by_cases hbad:0<l.length∧24<lv
 ·have h1:(0:Int)<(l.length:Int):=a6
  have h2:(24:Int)<(lv:Int):=a6
  obtain rfl:z=false:=by
   rw[←hz]
   cases l with
   |nil=>simp at hbad
   |cons e l=>obtain⟨kind,op,num,name,kids⟩:=e;simp[bb,ft];omega
  simp only[go_sem,j4,h1,h2]
 by_cases hl0:l=[]
 ·subst hl0
  obtain rfl:z=true:=by rw[←hz];simp[bb]
  exact WB
 have hlp:0<l.length:=Q7.2 hl0
 have hc:(0:Int)<(l.length:Int):=a6
 have hc2:¬(24:Int)<(lv:Int):=a6
 simp only[go_sem,j4,hc,hc2]
 refine ak (fun m st=>∃k:Nat,m+k=l.length∧(l.take k).all (ft lv)=true∧st.f 1=iv .i64 lv∧st.f 14=.one (.d (.sl (l.map exD)))∧st.f 15=iv .i64 l.length∧st.f 16=iv .i64 k) l.length ?_ ?_
 ·exact XP
 rintro m f g1 ob1 ⟨k,hk,hall,q1,q14,q15,q16⟩
 simp only at q1 q14 q15 q16
 have hw:=ab (k:=k) a6
 by_cases hlt:k<l.length
 case neg=>
  have hki:¬(k:Int)<(l.length:Int):=a6
  obtain rfl:k=l.length:=a6
  rw[l7 (j8 _)] at hall
  obtain rfl:z=true:=by rw[←hz,Src.za];exact hall
  simp only[go_sem,q15,q16,hki]
 have hki:(k:Int)<(l.length:Int):=a6
 have hk0:(0:Int)≤(k:Int):=a6
 obtain⟨e,he⟩:=getq hlt
 obtain⟨kind,op,num,name,kids⟩:=e
 have hszk:=Src.Kv (l0 he)
 rw[szE] at hszk
 have hE:exD (.mk kind op num name kids)=[.int .i64 kind,.int .i64 op,.int .u32 num,.str name,.sl (kids.map exD)]:=by simp only[exD,aw]
 have hF:=Ao ho (.mk kind op num name kids)
 have hK:=ih (aG kids) a6 kids (lv+1) (j8 _) a6 a6
 unfold exV at hF
 unfold dj at hK
 rw[hE] at hF
 simp only[l5,v8] at hF
 have hl24:lv≤24:=a6
 simp only[go_sem,q1,q14,q15,q16,hki,hk0,he,hE]
 refine ck rfl (by simp only[go_sem];exact hF) ?_
 rintro _ rfl
 cases hf:br kind op num name kids.length
 ·obtain rfl:z=false:=by rw[←hz,Src.za];exact Src.all_false he (by simp[ft,hf])
  simp only[go_sem,hf]
 simp only[go_sem,q1,hwl]
 refine ck rfl (by simp only[go_sem,q1,hwl];exact hK) ?_
 rintro _ rfl
 cases hr:bb (lv+1) kids
 ·obtain rfl:z=false:=by rw[←hz,Src.za];exact Src.all_false he (by simp[ft,hf,hr])
  exact VE
 ·simp only[go_sem,q16,hw]
  refine ah (m-1) a6 ⟨k+1,a6,Src.Sn hall he (by simp[ft,hf,hr,hl24]),?_⟩
  simp only[go_sem,q1,q14,q15]
theorem Ap {o:cn} (ho:ji o) (e:Stm):bI Tryz.prog 3 o 193 [smV e] (· = bv (match e with|.mk kind name e th el=>bX kind name e.length th.length el.length)):=by
 obtain⟨kind,name,e,th,el⟩:=e
 refine hdG Tryz.func193 rfl [.tmp 2] fun b₀ β0 s0 w0 g=>?_
 simp only
 obtain⟨z,hz⟩:∃z,bX kind name e.length th.length el.length=z:=⟨_,rfl⟩
 rw[hz]
 unfold smV
 simp only[smD,aw,cK,l5,v8]
 unfold bX at hz
 by_cases k1:kind=1
 ·rw[if_pos k1] at hz
  simp only[go_sem,l9 k1]
  refine ck rfl (by simp only[go_sem];exact bZ ho name true) ?_
  rintro _ rfl
  cases hnm:ai true name
  ·obtain rfl:z=false:=by rw[←hz];simp[hnm]
   simp only[go_sem,l9 k1]
  have e0:(0:Int)≤(e.length:Int):=a6
  by_cases hlo:(e.length:Int)<1
  ·obtain rfl:z=false:=by rw[←hz,hnm,s7];exact y7 a6
   simp only[go_sem,l9 k1,j4,hlo]
  by_cases hhi:(1:Int)<(e.length:Int)
  ·obtain rfl:z=false:=by rw[←hz,hnm,s7];exact y7 a6
   simp only[go_sem,l9 k1,j4,hlo,hhi]
  by_cases hth:(th.length:Int)=0
  case neg=>
   obtain rfl:z=false:=by rw[←hz,hnm,s7];exact y7 a6
   simp only[go_sem,l9 k1,j4,hlo,hhi,hth]
  by_cases hel:(el.length:Int)=0
  case neg=>
   obtain rfl:z=false:=by rw[←hz,hnm,s7];exact y7 a6
   simp only[go_sem,l9 k1,j4,hlo,hhi,hth,hel]
  obtain rfl:z=true:=by rw[←hz,hnm,s7];exact A7 a6
  simp only[go_sem,l9 k1,j4,hlo,hhi,hth,hel]
 by_cases k2:kind=2
 ·rw[if_neg k1,if_pos k2] at hz
  simp only[go_sem,l9 k2,k1]
  refine ck rfl (by simp only[go_sem];exact bZ ho name true) ?_
  rintro _ rfl
  cases hnm:ai true name
  ·obtain rfl:z=false:=by rw[←hz];simp[hnm]
   simp only[go_sem,l9 k2,k1]
  have e0:(0:Int)≤(e.length:Int):=a6
  by_cases hlo:(e.length:Int)<2
  ·obtain rfl:z=false:=by rw[←hz,hnm,s7];exact y7 a6
   simp only[go_sem,l9 k2,k1,j4,hlo]
  by_cases hhi:(2:Int)<(e.length:Int)
  ·obtain rfl:z=false:=by rw[←hz,hnm,s7];exact y7 a6
   simp only[go_sem,l9 k2,k1,j4,hlo,hhi]
  by_cases hth:(th.length:Int)=0
  case neg=>
   obtain rfl:z=false:=by rw[←hz,hnm,s7];exact y7 a6
   simp only[go_sem,l9 k2,k1,j4,hlo,hhi,hth]
  by_cases hel:(el.length:Int)=0
  case neg=>
   obtain rfl:z=false:=by rw[←hz,hnm,s7];exact y7 a6
   simp only[go_sem,l9 k2,k1,j4,hlo,hhi,hth,hel]
  obtain rfl:z=true:=by rw[←hz,hnm,s7];exact A7 a6
  simp only[go_sem,l9 k2,k1,j4,hlo,hhi,hth,hel]
 by_cases k3:kind=3
 ·rw[if_neg k1,if_neg k2,if_pos k3] at hz
  simp only[go_sem,l9 k3,k1,k2]
  refine ck rfl (by simp only[go_sem];exact bZ ho name false) ?_
  rintro _ rfl
  cases hnm:ai false name
  ·obtain rfl:z=false:=by rw[←hz];simp[hnm]
   simp only[go_sem,l9 k3,k1,k2]
  have e0:(0:Int)≤(e.length:Int):=a6
  by_cases hlo:(e.length:Int)<1
  ·obtain rfl:z=false:=by rw[←hz,hnm,s7];exact y7 a6
   simp only[go_sem,l9 k3,k1,k2,j4,hlo]
  by_cases hhi:(1:Int)<(e.length:Int)
  ·obtain rfl:z=false:=by rw[←hz,hnm,s7];exact y7 a6
   simp only[go_sem,l9 k3,k1,k2,j4,hlo,hhi]
  by_cases hth:(th.length:Int)=0
  case neg=>
   obtain rfl:z=false:=by rw[←hz,hnm,s7];exact y7 a6
   simp only[go_sem,l9 k3,k1,k2,j4,hlo,hhi,hth]
  by_cases hel:(el.length:Int)=0
  case neg=>
   obtain rfl:z=false:=by rw[←hz,hnm,s7];exact y7 a6
   simp only[go_sem,l9 k3,k1,k2,j4,hlo,hhi,hth,hel]
  obtain rfl:z=true:=by rw[←hz,hnm,s7];exact A7 a6
  simp only[go_sem,l9 k3,k1,k2,j4,hlo,hhi,hth,hel]
 by_cases k4:kind=4
 ·rw[if_neg k1,if_neg k2,if_neg k3,if_pos k4] at hz
  simp only[go_sem,l9 k4,k1,k2,k3]
  refine ck rfl (by simp only[go_sem];exact bZ ho name false) ?_
  rintro _ rfl
  cases hnm:ai false name
  ·obtain rfl:z=false:=by rw[←hz];simp[hnm]
   simp only[go_sem,l9 k4,k1,k2,k3]
  have e0:(0:Int)≤(e.length:Int):=a6
  by_cases hlo:(e.length:Int)<1
  ·obtain rfl:z=false:=by rw[←hz,hnm,s7];exact y7 a6
   simp only[go_sem,l9 k4,k1,k2,k3,j4,hlo]
  by_cases hhi:(1:Int)<(e.length:Int)
  ·obtain rfl:z=false:=by rw[←hz,hnm,s7];exact y7 a6
   simp only[go_sem,l9 k4,k1,k2,k3,j4,hlo,hhi]
  obtain rfl:z=true:=by rw[←hz,hnm,s7];exact A7 a6
  simp only[go_sem,l9 k4,k1,k2,k3,j4,hlo,hhi]
 by_cases k5:kind=5
 ·rw[if_neg k1,if_neg k2,if_neg k3,if_neg k4,if_pos k5] at hz
  simp only[go_sem,l9 k5,k1,k2,k3,k4]
  refine ck rfl (by simp only[go_sem];exact bZ ho name false) ?_
  rintro _ rfl
  cases hnm:ai false name
  ·obtain rfl:z=false:=by rw[←hz];simp[hnm]
   simp only[go_sem,l9 k5,k1,k2,k3,k4]
  have e0:(0:Int)≤(e.length:Int):=a6
  by_cases hlo:(e.length:Int)<1
  ·obtain rfl:z=false:=by rw[←hz,hnm,s7];exact y7 a6
   simp only[go_sem,l9 k5,k1,k2,k3,k4,j4,hlo]
  by_cases hhi:(1:Int)<(e.length:Int)
  ·obtain rfl:z=false:=by rw[←hz,hnm,s7];exact y7 a6
   simp only[go_sem,l9 k5,k1,k2,k3,k4,j4,hlo,hhi]
  by_cases hel:(el.length:Int)=0
  case neg=>
   obtain rfl:z=false:=by rw[←hz,hnm,s7];exact y7 a6
   simp only[go_sem,l9 k5,k1,k2,k3,k4,j4,hlo,hhi,hel]
  obtain rfl:z=true:=by rw[←hz,hnm,s7];exact A7 a6
  simp only[go_sem,l9 k5,k1,k2,k3,k4,j4,hlo,hhi,hel]
 by_cases k6:kind=6
 ·rw[if_neg k1,if_neg k2,if_neg k3,if_neg k4,if_neg k5,if_pos k6] at hz
  simp only[go_sem,l9 k6,k1,k2,k3,k4,k5]
  refine ck rfl (by simp only[go_sem];exact bZ ho name true) ?_
  rintro _ rfl
  cases hnm:ai true name
  ·obtain rfl:z=false:=by rw[←hz];simp[hnm]
   simp only[go_sem,l9 k6,k1,k2,k3,k4,k5]
  have e0:(0:Int)≤(e.length:Int):=a6
  have hlo:¬(e.length:Int)<0:=a6
  by_cases hhi:(6:Int)<(e.length:Int)
  ·obtain rfl:z=false:=by rw[←hz,hnm,s7];exact y7 a6
   simp only[go_sem,l9 k6,k1,k2,k3,k4,k5,j4,hlo,hhi]
  by_cases hth:(th.length:Int)=0
  case neg=>
   obtain rfl:z=false:=by rw[←hz,hnm,s7];exact y7 a6
   simp only[go_sem,l9 k6,k1,k2,k3,k4,k5,j4,hlo,hhi,hth]
  by_cases hel:(el.length:Int)=0
  case neg=>
   obtain rfl:z=false:=by rw[←hz,hnm,s7];exact y7 a6
   simp only[go_sem,l9 k6,k1,k2,k3,k4,k5,j4,hlo,hhi,hth,hel]
  obtain rfl:z=true:=by rw[←hz,hnm,s7];exact A7 a6
  simp only[go_sem,l9 k6,k1,k2,k3,k4,k5,j4,hlo,hhi,hth,hel]
 by_cases k7:kind=7
 ·rw[if_neg k1,if_neg k2,if_neg k3,if_neg k4,if_neg k5,if_neg k6,if_pos k7] at hz
  simp only[go_sem,l9 k7,k1,k2,k3,k4,k5,k6]
  refine ck rfl (by simp only[go_sem];exact bZ ho name false) ?_
  rintro _ rfl
  cases hnm:ai false name
  ·obtain rfl:z=false:=by rw[←hz];simp[hnm]
   simp only[go_sem,l9 k7,k1,k2,k3,k4,k5,k6]
  have e0:(0:Int)≤(e.length:Int):=a6
  have hlo:¬(e.length:Int)<0:=a6
  by_cases hhi:(1:Int)<(e.length:Int)
  ·obtain rfl:z=false:=by rw[←hz,hnm,s7];exact y7 a6
   simp only[go_sem,l9 k7,k1,k2,k3,k4,k5,k6,j4,hlo,hhi]
  by_cases hth:(th.length:Int)=0
  case neg=>
   obtain rfl:z=false:=by rw[←hz,hnm,s7];exact y7 a6
   simp only[go_sem,l9 k7,k1,k2,k3,k4,k5,k6,j4,hlo,hhi,hth]
  by_cases hel:(el.length:Int)=0
  case neg=>
   obtain rfl:z=false:=by rw[←hz,hnm,s7];exact y7 a6
   simp only[go_sem,l9 k7,k1,k2,k3,k4,k5,k6,j4,hlo,hhi,hth,hel]
  obtain rfl:z=true:=by rw[←hz,hnm,s7];exact A7 a6
  simp only[go_sem,l9 k7,k1,k2,k3,k4,k5,k6,j4,hlo,hhi,hth,hel]
 obtain rfl:z=false:=by rw[←hz];simp[k1,k2,k3,k4,k5,k6,k7]
 simp only[go_sem,k1,k2,k3,k4,k5,k6,k7]
end
section
attribute [local congr] Go.Am.ite_cc
open Go Go.Am Go.Asm
open Go.Src (aR ai br bX ft bb fc aX eL gk dw szE aG szS au Ex Stm)
theorem wL {o:cn} (ho:ji o):∀(N:Nat) (l:List Stm) (lv:Nat),au l≤N→N≤1000000000→lv≤25→bI Tryz.prog 3 o 125 [dO l,iv .i64 lv] (· = bv (aX lv l)):=by
 intro N
 induction N using Nat.strongRecOn with
 |ind N ih=>
 intro l lv hsz hN hlv
 refine hdG Tryz.func125 rfl [.tmp 4] fun b₀ β0 s0 w0 g=>?_
 obtain⟨z,hz⟩:∃z,aX lv l=z:=⟨_,rfl⟩
 rw[hz]
 have hll:=Src.Hm l
 have hwl:=ab (k:=lv) a6
 unfold dO
 by_cases hbad:0<l.length∧24<lv
 ·have h1:(0:Int)<(l.length:Int):=a6
  have h2:(24:Int)<(lv:Int):=a6
  obtain rfl:z=false:=by
   rw[←hz]
   cases l with
   |nil=>simp at hbad
   |cons e l=>
     obtain⟨kind,name,e,th,el⟩:=e
     have:¬lv≤24:=a6
     simp[aX,fc,this]
  simp only[go_sem,j4,h1,h2]
 by_cases hl0:l=[]
 ·subst hl0
  obtain rfl:z=true:=by rw[←hz];simp[aX]
  exact WB
 have hlp:0<l.length:=Q7.2 hl0
 have hc:(0:Int)<(l.length:Int):=a6
 have hc2:¬(24:Int)<(lv:Int):=a6
 simp only[go_sem,j4,hc,hc2]
 refine ak (fun m st=>∃k:Nat,m+k=l.length∧(l.take k).all (fc lv)=true∧st.f 1=iv .i64 lv∧st.f 14=.one (.d (.sl (l.map smD)))∧st.f 15=iv .i64 l.length∧st.f 16=iv .i64 k) l.length ?_ ?_
 ·exact XP
 rintro m f g1 ob1 ⟨k,hk,hall,q1,q14,q15,q16⟩
 simp only at q1 q14 q15 q16
 have hw:=ab (k:=k) a6
 by_cases hlt:k<l.length
 case neg=>
  have hki:¬(k:Int)<(l.length:Int):=a6
  obtain rfl:k=l.length:=a6
  rw[l7 (j8 _)] at hall
  obtain rfl:z=true:=by rw[←hz,Src.zb];exact hall
  simp only[go_sem,q15,q16,hki]
 have hki:(k:Int)<(l.length:Int):=a6
 have hk0:(0:Int)≤(k:Int):=a6
 obtain⟨e,he⟩:=getq hlt
 obtain⟨kind,name,es,th,el⟩:=e
 have hszk:=Src.Kw (l0 he)
 rw[szS] at hszk
 have hE:smD (.mk kind name es th el)=[.int .i64 kind,.str name,.sl (es.map exD),.sl (th.map smD),.sl (el.map smD)]:=by simp only[smD,aw,cK]
 have hF:=Ap ho (.mk kind name es th el)
 have hX:=wK ho (aG es) es (lv+1) (j8 _) a6 a6
 have hT:=ih (au th) a6 th (lv+1) (j8 _) a6 a6
 have hL:=ih (au el) a6 el (lv+1) (j8 _) a6 a6
 unfold smV at hF
 unfold dj at hX
 unfold dO at hT hL
 rw[hE] at hF
 simp only[l5,v8] at hF
 have hl24:lv≤24:=a6
 simp only[go_sem,q1,q14,q15,q16,hki,hk0,he,hE]
 refine ck rfl (by simp only[go_sem];exact hF) ?_
 rintro _ rfl
 cases hf:bX kind name es.length th.length el.length
 ·obtain rfl:z=false:=by rw[←hz,Src.zb];exact Src.all_false he (by simp[fc,hf])
  simp only[go_sem,hf]
 simp only[go_sem,q1,hwl]
 refine ck rfl (by simp only[go_sem,q1,hwl];exact hX) ?_
 rintro _ rfl
 cases hr:bb (lv+1) es
 ·obtain rfl:z=false:=by rw[←hz,Src.zb];exact Src.all_false he (by simp[fc,hf,hr])
  exact VE
 simp only[go_sem,q1,hwl]
 refine ck rfl (by simp only[go_sem,q1,hwl];exact hT) ?_
 rintro _ rfl
 cases ht:aX (lv+1) th
 ·obtain rfl:z=false:=by rw[←hz,Src.zb];exact Src.all_false he (by simp[fc,hf,hr,ht])
  exact VE
 simp only[go_sem,q1,hwl]
 refine ck rfl (by simp only[go_sem,q1,hwl];exact hL) ?_
 rintro _ rfl
 cases hel:aX (lv+1) el
 ·obtain rfl:z=false:=by rw[←hz,Src.zb];exact Src.all_false he (by simp[fc,hf,hr,ht,hel])
  exact VE
 ·simp only[go_sem,q16,hw]
  refine ah (m-1) a6 ⟨k+1,a6,Src.Sn hall he (by simp[fc,hf,hr,ht,hel,hl24]),?_⟩
  simp only[go_sem,q1,q14,q15]
def szP (p:Src.Prog):Nat:=p.vars.length+p.arrays.length+p.funcs.length+(p.funcs.map fun f=>f.params.length+f.locals.length+au f.body).sum
theorem kh {p:Src.Prog}{f:Src.Fn} (h:f∈p.funcs):f.params.length+f.locals.length+au f.body≤szP p:=by
 have:∀l:List Src.Fn,f∈l→f.params.length+f.locals.length+au f.body≤(l.map fun f=>f.params.length+f.locals.length+au f.body).sum:=by
  intro l
  induction l with
  |nil=>intro h;cases h
  |cons x l ih=>
    intro h
    rw[l5,C6]
    rcases z6.1 h with rfl|h
    ·omega
    ·have:=ih h;omega
 have:=this _ h
 unfold szP
 omega
theorem BS {o:cn} (ho:ji o) (p:Src.Prog) (hsz:szP p≤1000000000):bI Tryz.prog 3 o 78 [bO p] (· = bv (dw p)):=by
 refine hdG Tryz.func78 rfl [.tmp 2] fun b₀ β0 s0 w0 g=>?_
 obtain⟨z,hz⟩:∃z,dw p=z:=⟨_,rfl⟩
 rw[hz]
 obtain⟨vs,ars,fs⟩:=p
 have hszp:=hsz
 unfold szP at hsz
 simp only at hsz
 unfold dw at hz
 simp only at hz
 unfold bO iq
 by_cases h1:fs.length<1
 ·have h1i:(fs.length:Int)<1:=a6
  obtain rfl:z=false:=by rw[←hz];simp;omega
  simp only[go_sem,j4,h1i]
 have h1i:¬(fs.length:Int)<1:=a6
 by_cases h2:64<fs.length
 ·have h2i:(64:Int)<(fs.length:Int):=a6
  obtain rfl:z=false:=by rw[←hz];simp;omega
  simp only[go_sem,j4,h1i,h2i]
 have h2i:¬(64:Int)<(fs.length:Int):=a6
 have hA:=oN ho vs a6
 unfold jP at hA
 simp only[go_sem,j4,h1i,h2i]
 refine ck rfl (by simp only[go_sem];exact hA) ?_
 rintro _ rfl
 cases hv:vs.all aR
 ·obtain rfl:z=false:=by rw[←hz];simp[hv]
  exact VE
 simp only[go_sem,j4]
 refine ak (fun m st=>∃k:Nat,m+k=ars.length∧(ars.take k).all gk=true∧st.f 1=.one (.ptr 1 (st.gen 1) 0)∧st.obj 1=some [.d (.sl (vs.map fun s=>[.str s])),.d (.sl (ars.map arD)),.d (.sl (fs.map fnD))]∧st.f 24=.one (.d (.sl (ars.map arD)))∧st.f 25=iv .i64 ars.length∧st.f 26=iv .i64 k) ars.length ?_ ?_
 ·exact XP
 clear g
 rintro m f g ob ⟨k,hk,hall,q1,o1,q24,q25,q26⟩
 simp only at q1 o1 q24 q25 q26
 have hw:=ab (k:=k) a6
 by_cases hlt:k<ars.length
 ·have hki:(k:Int)<(ars.length:Int):=a6
  have hk0:(0:Int)≤(k:Int):=a6
  obtain⟨⟨nm,sz⟩,he⟩:=getq hlt
  simp only[go_sem,q1,o1,q24,q25,q26,hki,hk0,he,arD]
  refine ck rfl (by simp only[go_sem];exact lD ho nm) ?_
  rintro _ rfl
  cases hb:aR nm
  ·obtain rfl:z=false:=by rw[←hz,Src.all_false (p:=gk) he (by simp[gk,hb])];simp
   exact VE
  by_cases hs1:sz<1
  ·obtain rfl:z=false:=by rw[←hz,Src.all_false (p:=gk) he (by simp[gk,hb];omega)];simp
   simp only[go_sem,hs1]
  by_cases hs2:4096<sz
  ·obtain rfl:z=false:=by rw[←hz,Src.all_false (p:=gk) he (by simp[gk,hb];omega)];simp
   simp only[go_sem,hs1,hs2]
  simp only[go_sem,hs1,hs2,q26,hw]
  refine ah (m-1) a6 ⟨k+1,a6,Src.Sn hall he (by simp[gk,hb];omega),?_⟩
  simp only[go_sem,q1,o1,q24,q25]
 have hki:¬(k:Int)<(ars.length:Int):=a6
 obtain rfl:k=ars.length:=a6
 rw[l7 (j8 _)] at hall
 simp only[go_sem,q1,o1,q25,q26,hki,j4]
 refine ak (fun m st=>∃k:Nat,m+k=fs.length∧(fs.take k).all eL=true∧st.f 46=.one (.d (.sl (fs.map fnD)))∧st.f 47=iv .i64 fs.length∧st.f 48=iv .i64 k) fs.length ?_ ?_
 ·exact XP
 clear q1 o1 q24 q25 q26 hlt hki hw hk
 rintro m f g ob ⟨k,hk,hallF,q46,q47,q48⟩
 simp only at q46 q47 q48
 have hw:=ab (k:=k) a6
 by_cases hlt:k<fs.length
 case neg=>
  have hki:¬(k:Int)<(fs.length:Int):=a6
  obtain rfl:k=fs.length:=a6
  rw[l7 (j8 _)] at hallF
  obtain rfl:z=true:=by rw[←hz,hall,hallF,hv,A7 (show 1≤fs.length∧fs.length≤64 by omega)];rfl
  simp only[go_sem,q47,q48,hki]
 have hki:(k:Int)<(fs.length:Int):=a6
 have hk0:(0:Int)≤(k:Int):=a6
 obtain⟨x,he⟩:=getq hlt
 have hszf:=kh (p:=⟨vs,ars,fs⟩) (l0 he)
 obtain⟨nm,ps,ls,w,body⟩:=x
 simp only at hszf
 have hAp:=oN ho ps a6
 have hAl:=oN ho ls a6
 have hB:=wL ho (au body) body 1 (j8 _) a6 a6
 unfold jP at hAp hAl
 unfold dO at hB
 have hfl:∀{y:Bool},eL ⟨nm,ps,ls,w,body⟩=y→y=false→z=false:=fun h1 h2=>by rw[←hz,Src.all_false (p:=eL) he (by rw[h1,h2])];simp
 simp only[go_sem,q46,q47,q48,hki,hk0,he,fnD]
 refine ck rfl (by simp only[go_sem];exact lD ho nm) ?_
 rintro _ rfl
 cases hb:aR nm
 ·obtain rfl:=hfl rfl (by simp[eL,hb])
  exact VE
 by_cases hp6:6<ps.length
 ·have hp6i:(6:Int)<(ps.length:Int):=a6
  obtain rfl:=hfl rfl (by simp[eL,hb];omega)
  simp only[go_sem,j4,hp6i]
 have hp6i:¬(6:Int)<(ps.length:Int):=a6
 have hp6':ps.length≤6:=a6
 simp only[go_sem,j4,hp6i]
 refine ck rfl (by simp only[go_sem];exact hAp) ?_
 rintro _ rfl
 cases hb2:ps.all aR
 ·obtain rfl:=hfl rfl (by simp only[eL,hb,hp6',hb2];simp)
  exact VE
 simp only[go_sem]
 refine ck rfl (by simp only[go_sem];exact hAl) ?_
 rintro _ rfl
 cases hb3:ls.all aR
 ·obtain rfl:=hfl rfl (by simp only[eL,hb,hp6',hb2,hb3];simp)
  exact VE
 simp only[go_sem]
 refine ck rfl (by simp only[go_sem];exact hB) ?_
 rintro _ rfl
 cases hb4:aX 1 body
 ·obtain rfl:=hfl rfl (by simp only[eL,hb,hp6',hb2,hb3,hb4];simp)
  exact VE
 simp only[go_sem,q48,hw]
 refine ah (m-1) a6 ⟨k+1,a6,Src.Sn hallF he (by simp only[eL,hb,hp6',hb2,hb3,hb4];simp),?_⟩
 simp only[go_sem,q46,q47]
end
end Go.Proofs.YtgbcmokfgbmabaaGreatDoorR
namespace Go.Src
section
open Go.Asm (Str digit letter dS hY)
section
def PR.Sz {α:Type} (sz:α→Nat) (x n:Nat) (p:PR α):Prop:=∀a m,p=.ok a m→sz a+n≤x+m
theorem PR.bind_sz {α β:Type}{sa:α→Nat}{sb:β→Nat}{x y n:Nat}{p:PR α}{f:α→Nat→PR β} (h:p.Sz sa x n) (h':∀a m,(f a m).Sz sb (sa a+y) m):(p.bind f).Sz sb (x+y) n:=by
 intro b m hb
 cases p with
 |ok a k=>
   have h1:=h a k rfl
   have h2:=h' a k b m hb
   omega
 |no k=>cases hb
variable {k n:Nat}{α:Type}{s:Str}{sa:α→Nat}
theorem PR.sz_no{x n m:Nat}:(PR.no m:PR α).Sz sa x n:=fun _ _ e=>by cases e
theorem PR.sz_ok{x n m:Nat}{a:α} (h:sa a+n≤x+m):(PR.ok a m).Sz sa x n:=fun b k e=>by cases e;exact h
theorem PR.Sz.of{x n y m:Nat}{p:PR α} (h:p.Sz sa x n) (hy:x+m≤y+n):p.Sz sa y m:=fun a k e=>by have:=h a k e;omega
def z0 {α:Type} (_:α):Nat:=0
theorem zc:∀(l m:List Ex),aG (l++m)=aG l+aG m
 |[],m=>by simp[aG]
 |e::l,m=>by simp only[A2,aG,zc l m];omega
theorem zd:∀(l m:List Stm),au (l++m)=au l+au m
 |[],m=>by simp[au]
 |e::l,m=>by simp only[A2,au,zd l m];omega
section
variable {ts:List Tok}
theorem kU:(takeN ts k n).Sz (fun _=>1) 0 n:=fun a m h=>by have:=fC a m h;show 1+n≤0+m;omega
theorem cp {l:List Str}{n:Nat}:(bE ts l n).Sz (fun _=>0) 0 n:=fun a m h=>by have:=cg a m h;show 0+n≤0+m;omega
mutual
theorem fV:∀(k least n:Nat),(cL ts k least n).Sz szE 0 n
 |0,_,_=>by unfold cL;exact PR.sz_no
 |k+1,least,n=>by
   unfold cL
   exact PR.bind_sz (y:=0) (zf k n) fun a m=>ze k least a m
theorem ze:∀(k least:Nat) (left:Ex) (n:Nat),(gX ts k least left n).Sz szE (szE left) n
 |0,_,_,_=>by unfold gX;exact PR.sz_no
 |k+1,least,left,n=>by
   unfold gX
   split
   ·exact PR.sz_ok a6
   ·exact(PR.bind_sz (x:=0) (y:=szE left+1) (fV k _ (n+1)) fun b q=>(ze k least _ q).of (by simp only[szE,aG];omega)).of a6
theorem zf:∀(k n:Nat),(eT ts k n).Sz szE 0 n
 |0,_=>by unfold eT;exact PR.sz_no
 |k+1,n=>by
   unfold eT
   split
   ·exact PR.bind_sz (y:=0) kU fun a m=>PR.sz_ok (by simp only[szE,aG];omega)
   split
   ·exact(PR.bind_sz (x:=0) (y:=1) cp fun a m=>PR.sz_ok (by simp only[szE,aG];omega)).of (m:=n) (y:=0) (n:=n+1) a6
   split
   ·exact(PR.bind_sz (x:=0) (y:=0) (fV k 1 (n+1)) fun a m=>(PR.bind_sz (x:=0) (y:=szE a) cp fun b q=>PR.sz_ok (sa:=szE) a6).of a6).of (m:=n) (y:=0) (n:=n+1) a6
   split
   ·exact(PR.bind_sz (x:=0) (y:=1) (zf k (n+1)) fun a m=>PR.sz_ok (by simp only[szE,aG];omega)).of (m:=n) (y:=0) (n:=n+1) a6
   refine PR.bind_sz (x:=0) (y:=0) kU fun a m=>?_
   split
   ·exact(PR.bind_sz (x:=0) (y:=1) (fV k 1 (m+1)) fun a m=>(PR.bind_sz (x:=0) (y:=szE a+1) cp fun b q=>PR.sz_ok (by simp only[szE,aG];omega)).of a6).of (n:=m+1) a6
   split
   ·exact(PR.bind_sz (x:=0) (y:=1) (zg k (m+1)) fun a m=>PR.sz_ok (by simp only[szE,aG];omega)).of (n:=m+1) a6
   ·exact PR.sz_ok (by simp only[szE,aG];omega)
theorem zg:∀(k n:Nat),(fG ts k n).Sz aG 0 n
 |0,_=>by unfold fG;exact PR.sz_no
 |k+1,n=>by
   unfold fG
   split
   ·exact PR.sz_ok (by simp only[aG];omega)
   ·exact PR.bind_sz (y:=0) (fV k 1 n) fun a m=>(zi k [a] m).of (by simp only[aG];omega)
theorem zi:∀(k:Nat) (l:List Ex) (n:Nat),(gY ts k l n).Sz aG (aG l) n
 |0,_,_=>by unfold gY;exact PR.sz_no
 |k+1,l,n=>by
   unfold gY
   split
   ·exact(PR.bind_sz (x:=0) (y:=aG l) (fV k 1 (n+1)) fun a m=>(zi k (l++[a]) m).of (by rw[zc];simp only[aG];omega)).of a6
   ·exact(PR.bind_sz (x:=0) (y:=aG l) cp fun b q=>PR.sz_ok (sa:=aG) a6).of a6
end
theorem qY:(jj ts k n).Sz aG 0 n:=
 PR.bind_sz (x:=0) (y:=0) cp fun _ m=>(PR.bind_sz (x:=0) (y:=0) (fV k 1 m) fun e m=>(PR.bind_sz (x:=0) (y:=szE e) cp fun _ _=>PR.sz_ok (by simp only[aG];omega)).of a6).of a6
theorem DN:(iO ts k n).Sz szS 0 n:=by
 unfold iO
 refine PR.bind_sz (x:=0) (y:=0) kU fun t m=>((PR.bind_sz (x:=1) (y:=0) (sa:=szS) ?_ fun s q=>(PR.bind_sz (x:=0) (y:=szS s) cp fun _ _=>PR.sz_ok (sa:=szS) a6).of (m:=q) a6).of (n:=m) (m:=m) a6)
 split
 ·exact(PR.bind_sz (x:=0) (y:=1) (fV k 1 (m+1)) fun _ _=>PR.sz_ok (by simp only[szS,au,aG];omega)).of a6
 split
 ·exact(PR.bind_sz (x:=0) (y:=1) (fV k 1 (m+1)) fun i _=>(PR.bind_sz (x:=0) (y:=szE i+1) cp fun _ q=>(PR.bind_sz (x:=0) (y:=szE i+1) (fV k 1 q) fun _ _=>PR.sz_ok (by simp only[szS,au,aG];omega)).of a6).of a6).of a6
 split
 ·exact(PR.bind_sz (x:=0) (y:=1) (zg k (m+1)) fun _ _=>PR.sz_ok (by simp only[szS,au];omega)).of a6
 ·exact PR.sz_no
mutual
theorem Hn:∀(k n:Nat),(jn ts k n).Sz szS 0 n
 |0,_=>by unfold jn;exact PR.sz_no
 |k+1,n=>by
   unfold jn
   split
   ·exact(PR.bind_sz (x:=0) (y:=1) qY fun e _=>(PR.bind_sz (x:=0) (y:=aG e+1) cp fun _ _=>PR.sz_ok (by simp only[szS,au];omega)).of a6).of (n:=n+1) a6
   split
   ·split
    ·exact PR.sz_ok (by simp only[szS,au,aG];omega)
    ·exact(PR.bind_sz (x:=0) (y:=1) (fV k 1 (n+1)) fun e _=>(PR.bind_sz (x:=0) (y:=szE e+1) cp fun _ _=>PR.sz_ok (by simp only[szS,au,aG];omega)).of a6).of (n:=n+1) a6
   split
   ·refine(PR.bind_sz (x:=0) (y:=1) qY fun e m=>(PR.bind_sz (x:=0) (y:=aG e+1) (un k m) fun th q=>?_).of a6).of (n:=n+1) a6
    split
    ·exact(PR.bind_sz (x:=0) (y:=au th+aG e+1) (un k (q+1)) fun _ _=>PR.sz_ok (by simp only[szS];omega)).of a6
    ·exact PR.sz_ok (by simp only[szS,au];omega)
   split
   ·exact(PR.bind_sz (x:=0) (y:=1) qY fun e m=>(PR.bind_sz (x:=0) (y:=aG e+1) (un k m) fun _ _=>PR.sz_ok (by simp only[szS,au];omega)).of a6).of (n:=n+1) a6
   ·exact DN
theorem un:∀(k n:Nat),(iE ts k n).Sz au 0 n
 |0,_=>by unfold iE;exact PR.sz_no
 |k+1,n=>by
   unfold iE
   exact PR.bind_sz (x:=0) (y:=0) cp fun _ m=>(qZ k [] m).of (by simp only[au];omega)
theorem qZ:∀(k:Nat) (l:List Stm) (n:Nat),(cX ts k l n).Sz au (au l) n
 |0,_,_=>by unfold cX;exact PR.sz_no
 |k+1,l,n=>by
   unfold cX
   split
   ·exact PR.sz_ok a6
   ·exact(PR.bind_sz (x:=0) (y:=au l) (Hn k n) fun a m=>(qZ k _ m).of (by rw[zd];simp only[au];omega)).of a6
end
theorem zj:∀{k:Nat}{l:List Fn}{n:Nat},(lZ ts k l n).In ts.length n
 |0,_,_=>by unfold lZ;exact PR.in_no
 |k+1,l,n=>by
   unfold lZ
   split
   ·exact PR.bind_in Ck fun _ _=>zj
   ·exact PR.in_here
theorem Hp:(ma ts k n).In ts.length n:=PR.bind_in um fun _ _=>PR.bind_in Ck fun _ _=>PR.bind_in zj fun _ _=>PR.in_here
theorem rc:(eg ts k n).Sz List.length 0 n:=fun a m h=>by have:=AW h;omega
theorem uq:∀{k:Nat}{l:List Str}{n:Nat},(dv ts k l n).Sz List.length l.length n
 |0,_,_=>by unfold dv;exact PR.sz_no
 |k+1,l,n=>by
   unfold dv
   split
   ·exact(PR.bind_sz (x:=0) (y:=l.length) (sa:=List.length) rc fun m q=>(PR.bind_sz (x:=0) (y:=m.length+l.length) cp fun _ _=>uq.of (by simp only[j5];omega)).of (m:=q) a6).of (n:=n+1) a6
   ·exact PR.sz_ok a6
def szF (f:Fn):Nat:=f.params.length+f.locals.length+au f.body
theorem Cl:(mh ts k n).Sz (fun f=>szF f+1) 0 n:=by
 unfold mh
 refine PR.bind_sz (x:=0) (y:=0) cp fun _ m=>(PR.bind_sz (x:=0) (y:=0) kU fun t m=>(PR.bind_sz (x:=0) (y:=1) cp fun _ m=>(PR.bind_sz (x:=0) (y:=1) (sa:=List.length) ?_ fun ps m=>(PR.bind_sz (x:=0) (y:=ps.length+1) cp fun _ m=>?_).of (n:=m) (m:=m) a6).of (n:=m) (m:=m) a6).of (m:=m) a6).of (m:=m) a6
 ·split
  ·exact rc
  ·exact PR.sz_ok (m:=m) a7
 ·have hb:∀v,((bE ts [[123]] v).bind fun _ m'=>(dv ts k [] m').bind fun ls m'=>(cX ts k [] m').bind fun b m'=>(PR.ok (Fn.mk t.text ps ls (decide (ay ts m=[119,111,114,100])) b) m')).Sz (fun f=>szF f+1) (ps.length+1) v:=fun v=>
   (PR.bind_sz (x:=0) (y:=ps.length+1) cp fun _ m'=>(PR.bind_sz (x:=0) (y:=ps.length+1) (uq (l:=[])) fun ls m'=>(PR.bind_sz (x:=0) (y:=ls.length+ps.length+1) (qZ k [] m') fun b m'=>PR.sz_ok (by simp only[szF];omega)).of (m:=m') a6).of (m:=m') a6).of a6
  split
  ·exact(hb (m+1)).of a6
  ·exact(hb m).of a6
theorem ur:∀{k:Nat}{l:List Str}{ars:List (Str×Int)}{n:Nat},(lY ts k l ars n).Sz (fun h=>h.1.length+h.2.length) (l.length+ars.length) n
 |0,_,_,_=>by unfold lY;exact PR.sz_no
 |k+1,l,ars,n=>by
   unfold lY
   split
   ·exact(PR.bind_sz (x:=0) (y:=l.length+ars.length) (sa:=List.length) rc fun m q=>(PR.bind_sz (x:=0) (y:=m.length+l.length+ars.length) cp fun _ _=>ur.of (by simp only[j5];omega)).of (m:=q) a6).of (n:=n+1) a6
   split
   ·exact(PR.bind_sz (x:=0) (y:=l.length+ars.length) kU fun t m=>(PR.bind_sz (x:=0) (y:=l.length+ars.length+1) cp fun _ m=>(PR.bind_sz (x:=0) (y:=l.length+ars.length+1) kU fun z m=>(PR.bind_sz (x:=0) (y:=l.length+ars.length+2) cp fun _ m=>(PR.bind_sz (x:=0) (y:=l.length+ars.length+2) cp fun _ m=>
     ur.of (m:=m) (by simp only[j5,M7];omega)).of (m:=m) a6).of (m:=m) a6).of (m:=m) a6).of (m:=m) a6).of (n:=n+1) a6
   ·exact PR.sz_ok (by simp only;omega)
def zk (l:List Fn):Nat:=l.length+(l.map szF).sum
theorem Hq (l:List Fn) (f:Fn):zk (l++[f])=zk l+szF f+1:=by simp[zk];omega
theorem zl:∀{k:Nat}{l:List Fn}{n:Nat},(lZ ts k l n).Sz zk (zk l) n
 |0,_,_=>by unfold lZ;exact PR.sz_no
 |k+1,l,n=>by
   unfold lZ
   split
   ·exact(PR.bind_sz (x:=0) (y:=zk l) Cl fun f m=>zl.of (m:=m) (by rw[Hq];omega)).of (m:=n) a6
   ·exact PR.sz_ok a6
def szP (p:Prog):Nat:=p.vars.length+p.arrays.length+zk p.funcs
theorem Hr:(ma ts k n).Sz szP 0 n:=
 (PR.bind_sz (x:=0) (y:=0) ur fun h m=>(PR.bind_sz (x:=0) (y:=h.1.length+h.2.length) Cl fun f m=>(PR.bind_sz (x:=szF f+1) (y:=h.1.length+h.2.length) (zl.of (m:=m) (by simp[zk];omega)) fun fs m=>PR.sz_ok (by simp only[szP];omega)).of (m:=m) a6).of (m:=m) a6).of (m:=n) a7
end
theorem AX{kd v:Nat}{t:Str} (h:firstT s=.ok (kd,t,v)):v≤4294967295:=by
 unfold firstT at h
 split at h
 ·cases h
 ·split at h
  ·split at h
   ·cases h
   ·cases h;omega
  split at h
  ·split at h
   ·split at h
    ·rename_i hx;cases h;omega
    ·cases h
   ·cases h
  split at h
  ·split at h
   ·cases h
   split at h <;> (cases h;omega)
  ·split at h
   ·cases h;omega
   ·cases h
theorem nE:∀{n k:Nat}{s:Str}{l:List Tok}{p:Nat},rI n k s=(.ok l,p)→l.length≤n∧∀t∈l,t.num≤4294967295
 |0,_,_,_,_,h=>by unfold rI at h;cases h;simp
 |_+1,_,[],_,_,h=>by unfold rI at h;cases h;simp
 |n+1,k,c::r,l,p,h=>by
   unfold rI at h
   split at h
   ·have:=nE h;exact⟨a6,this.2⟩
   split at h
   ·have:=nE h;exact⟨a6,this.2⟩
   split at h
   ·cases h
   ·rename_i kd t v hf
    split at h
    ·rename_i l' p' hl
     cases h
     have:=nE hl
     refine⟨by simp;omega,fun x hx=>?_⟩
     rcases z6.1 hx with rfl|hx
     ·exact AX hf
     ·exact this.2 x hx
    ·cases h
theorem Hs:(qR s).1.length≤20001∧∀t∈(qR s).1,t.num≤4294967295:=by
 unfold qR
 split
 ·simp
 ·split
  ·rename_i h
   have:=nE h
   exact⟨by simp only;omega,this.2⟩
  ·simp
def kN (ts:List Tok) (fin n:Nat):Nat:=match ts[n]? with|some t=>t.place|none=>fin
def Vl (s:Str):R Prog×Nat:=
 if (qR s).2.2≠0 then(.err (qR s).2.2,(qR s).2.1)
 else match ma (qR s).1 (4*(qR s).1.length+7) 0 with
  |.ok p m=>if m<(qR s).1.length then(.err 3,kN (qR s).1 s.length m) else(.ok p,0)
  |.no m=>(.err 3,kN (qR s).1 s.length m)
theorem LN{k m:Nat}{p:Prog} (h:ma (qR s).1 k 0=.ok p m):szP p≤20001:=by
 have h1:=Hr p m h
 have h2:m≤max 0 (qR s).1.length:=Hp p m h
 have h3:=Hs (s:=s)
 omega
end
end
end Go.Src

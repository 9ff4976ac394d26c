/- A part of the proof; no conditions. -/
import Derived.Test.YtlglgadejgdpcaaGreatDoorPart10
set_option linter.unusedSimpArgs false
set_option linter.unusedVariables false
set_option maxHeartbeats 64000000
set_option maxRecDepth 100000
namespace Go.Proofs.YtlglgadejgdpcaaGreatDoor
section
open Go Go.Am Go.Asm
open Go.Src (PR cV az takeN br Ex Stm cj fU eu eU fV)
section
variable {α:Type}{B:Nat}{g:Nat→Nat}
section
variable {b₀:Bs}{rd:Option Nat}{Φ:St→Am.Loc→List Deferred→World→Prop}{B0:Nat}{Ψ:fF}{o:Oper}{s:St}{K:St→Prop}{k:Box K}{args:Array Operand}{tys:Array TypeId}
theorem tu (ts:List Src.Tok) (n fin:Nat) (hΦ:aE b₀ Φ) (ho:o.op=.call ⟨.value (.func 79),args,tys⟩) (hx:args.toList.map s.ev=[.one (.ptr 125 (s.gen 125) 0)]) (hob:s.obj 125=some (rdC ts n fin)) (hk:K (s.put o.dst (iv .i64 (cV ts n:Nat)))):aS (spF Tryz.prog rd b₀ Φ B0 Ψ) o s k:=by
 refine bL hΦ ho (by rw[hx];exact CA hob) ?_
 rintro _ g1 ob1 ⟨rfl,rfl,rfl⟩
 exact hk
theorem Av (ts:List Src.Tok) (n fin:Nat) (hΦ:aE b₀ Φ) (ho:o.op=.call ⟨.value (.func 78),args,tys⟩) (hx:args.toList.map s.ev=[.one (.ptr 125 (s.gen 125) 0)]) (Bc:Nat) (hB:200≤Bc) (hfree:∀i,Bc≤i→s.obj i=none) (hob:s.obj 125=some (rdC ts n fin)) (hk:K (s.put o.dst (sv (az ts n)))):aS (spF Tryz.prog rd b₀ Φ B0 Ψ) o s k:=by
 refine bL hΦ ho (by rw[hx];exact xO hB hfree hob) ?_
 rintro _ g1 ob1 ⟨rfl,rfl,rfl⟩
 exact hk
theorem bJ (ts:List Src.Tok) (n fin:Nat) (str:Str) (hΦ:aE b₀ Φ) (ho:o.op=.call ⟨.value (.func 47),args,tys⟩) (hx:args.toList.map s.ev=[.one (.ptr 125 (s.gen 125) 0),sv str]) (Bc:Nat) (hB:200≤Bc) (hfree:∀i,Bc≤i→s.obj i=none) (hob:s.obj 125=some (rdC ts n fin)) (hn:n≤1000000)
  (hy:az ts n=str→K (St.put ⟨s.f,s.gen,upd s.obj 125 (some (rdC ts (n+1) fin))⟩ o.dst (bv true))) (hz:az ts n≠str→K (s.put o.dst (bv false))):aS (spF Tryz.prog rd b₀ Φ B0 Ψ) o s k:=by
 refine bL hΦ ho (by rw[hx];exact NY hB hfree hob hn str) ?_
 rintro _ g1 ob1 ⟨rfl,⟨h,rfl,rfl⟩|⟨h,rfl,rfl⟩⟩
 ·exact hy h
 ·exact hz h
theorem bu (ts:List Src.Tok) (n fin:Nat) (hΦ:aE b₀ Φ) (ho:o.op=.call ⟨.value (.func 50),args,tys⟩) (l:List Str) (j:Nat) (hx:args.toList.map s.ev=[.one (.ptr 125 (s.gen 125) 0),.one (.osl j (s.gen j) 1 0 l.length)]) (Bc:Nat) (hB:200≤Bc) (hfree:∀i,Bc≤i→s.obj i=none) (hob:s.obj 125=some (rdC ts n fin)) (hn:n+l.length≤1000000) (hj:j<Bc) (hj1:j≠125) (hjo:s.obj j=some (bD l))
{ob:Obs}{p':PR α} (hin:InF B g ob s.gen s.obj) (hno:∀m,br ts l n=.no m→p'=.no m)
  (hk:∀m,br ts l n=.ok () m→K (St.put ⟨s.f,s.gen,upd s.obj 125 (some (rdC ts m fin))⟩ o.dst uv)):aS (spF Tryz.prog rd b₀ Φ B0 (EZ B [125] g ob (NoR ts fin p' g ob))) o s k:=by
 refine bp (R:=OkR ts fin (br ts l n) (fun _=>uv) s.gen s.obj) (Ψ0:=NoR ts fin (br ts l n) s.gen s.obj) hΦ ho (by rw[hx];exact Jy l hB hfree hob hn hj hj1 hjo) ?_ ?_
 ·rintro ch g' ob' ⟨rfl,m,hp,hc,rfl⟩
  exact hin.rdr.pan (by simp[upd]) (hno m hp) hc
 ·rintro r g' ob' ⟨rfl,a,m,hp,rfl,rfl⟩
  exact hk m hp
theorem Aw (ts:List Src.Tok) (n fin:Nat) (hΦ:aE b₀ Φ) (ho:o.op=.call ⟨.value (.func 46),args,tys⟩) (hx:args.toList.map s.ev=[.one (.ptr 125 (s.gen 125) 0)]) (hob:s.obj 125=some (rdC ts n fin))
{ob:Obs}{p':PR α} (hin:InF B g ob s.gen s.obj) (hno:p'=.no n):aS (spF Tryz.prog rd b₀ Φ B0 (EZ B [125] g ob (NoR ts fin p' g ob))) o s k:=by
 refine bp (R:=fun _ _ _=>False) (Ψ0:=fun ch g' ob'=>ch=rn (kf ts fin n)∧g'=s.gen∧ob'=s.obj) hΦ ho (by rw[hx];exact uE hob) ?_ (fun _ _ _ h=>h.elim)
 rintro ch g' ob' ⟨rfl,rfl,rfl⟩
 exact hin.pan hob hno rfl
end
instance:Inhabited Ex:=⟨.mk 0 0 0 [] []⟩
theorem look [Inhabited α] (p:PR α):∃a m,(∃a' m',p=.ok a' m')→p=.ok a m:=by
 cases p with
 |ok a m=>exact⟨a,m,fun _=>rfl⟩
 |no m=>exact⟨default,0,fun⟨_,_,h⟩=>by cases h⟩
theorem Ie (p:PR α) {G:α→Prop} (a0:α) (h0:G a0) (h1:∀a m,p=.ok a m→G a):∃a m,G a∧((∃a' m',p=.ok a' m')→p=.ok a m):=by
 cases p with
 |ok a m=>exact⟨a,m,h1 a m rfl,fun _=>rfl⟩
 |no m=>exact⟨a0,0,h0,fun⟨_,_,h⟩=>by cases h⟩
theorem FT (s:Str):(Src.tO s).2.2≤9:=by
 have h:∀(c:Prop) [Decidable c] (x y:Int×Int×Nat),x.2.2≤9→y.2.2≤9→(if c then x else y).2.2≤9:=fun c _ x y hx hy=>by split <;> assumption
 unfold Src.tO
 repeat (refine h _ _ _ (by decide) ?_)
 decide
theorem CL:(Src.tO []).2.2=0:=c8
mutual
def exD:Ex→List D
 |.mk kind op num name kids=>[.int .i64 kind,.int .i64 op,.int .u32 num,.str name,.sl (qk kids)]
def qk:List Ex→List (List D)
 |[]=>[]
 |e::l=>exD e::qk l
end
theorem aX:∀l:List Ex,qk l=l.map exD
 |[]=>by simp[qk]
 |e::l=>by simp[qk,aX l]
theorem cD (e:Ex):(exD e).length=5:=by cases e;simp[exD]
def exV (e:Ex):AV:=.agg ((exD e).map .d)
def iV (l:List Ex):AV:=.one (.d (.sl (l.map exD)))
def exC (l:List Ex):List C:=l.flatMap fun a=>(exD a).map .d
theorem FU (l:List Ex):(exC l).length=l.length*5:=by
 induction l with
 |nil=>rfl
 |cons a l ih=>simp only[exC,B4,j5,j6,cD,j7] at ih ⊢;omega
theorem mt (e:Ex):exC [e]=(exD e).map .d:=by simp[exC]
theorem FV (l m:List Ex):exC (l++m)=exC l++exC m:=by simp[exC]
theorem wa{s:St}{a b c d:D}{c5:C}{x5:D} (h:eW (B≤·) s c5 x5):ej B s [.agg [.d a,.d b,.d c,.d d,c5]] [.agg [.d a,.d b,.d c,.d d,.d x5]]:=
 ⟨_,_,rfl,.agg (xs:=[a,b,c,d,x5]) rfl (fun i e he=>by
  match i,he with
  |0,he=>cases he;exact⟨_,rfl,.d _⟩
  |1,he=>cases he;exact⟨_,rfl,.d _⟩
  |2,he=>cases he;exact⟨_,rfl,.d _⟩
  |3,he=>cases he;exact⟨_,rfl,.d _⟩
  | 4,he=>cases he;exact⟨_,rfl,h⟩),rfl⟩
theorem mu {B id g n:Nat}{s:St}{l:List Ex} (hid:B≤id) (hg:s.gen id=g) (ho:s.obj id=some (exC l)) (hn:l.length=n):eW (B≤·) s (.osl id g 5 0 n) (.sl (qk l)):=by
 rw[aX]
 exact dX hid hg l exD ho rfl (fun a _=>cD a) hn
end
end
section
attribute [local congr] Go.Am.ite_cc
open Go Go.Am Go.Asm
open Go.Src (PR cV az takeN br Ex Stm cj fU eu eU fV)
structure ExK (ts:List Src.Tok) (fin k:Nat):Prop where
 expr:∀(least n:Nat),1≤least→least≤100→n≤ts.length→4*(ts.length-n)+3≤k→eb 162 [iv .i64 least] ts n fin (cj ts k least n) exV
 atom:∀(n:Nat),n≤ts.length→4*(ts.length-n)+2≤k→eb 183 [] ts n fin (eu ts k n) exV
 args:∀(n:Nat),n≤ts.length→4*(ts.length-n)+4≤k→eb 185 [] ts n fin (eU ts k n) iV
theorem JC {ts:List Src.Tok}{fin k n:Nat} (hl:ts.length≤100000) (ih:ExK ts fin k) (hnl:n≤ts.length) (hk:4*(ts.length-n)+2≤k+1):eb 183 [] ts n fin (eu ts (k+1) n) exV:=by
 intro B g ob hB hf ho
 refine al B [125] ae mixed Tryz.func183 rfl b9 [.cell 2 215] rfl c9 c9 (by simp[Tryz.ntmps183]) (by simp;omega) hf fun b₀ β0 s0 w0=>?_
 have n1:=nlo hB
 have n2:=nhi hB
 have hin:InF B g ob g ob:=InF.refl
 have hf1:=hf
 obtain⟨p,hp⟩:∃p,eu ts (k+1) n=p:=⟨_,rfl⟩
 rw[hp]
 rw[eu] at hp
 simp only[go_sem,n1,n2]
 refine tu ts n fin aa rfl (by simp only[go_sem,n1,n2]) (by simp only[go_sem,n1,n2,ho]) ?_
 by_cases h2:cV ts n=2
 ·rw[if_pos h2] at hp
  have h2i:(cV ts n:Int)=2:=a7
  simp only[go_sem,h2i]
  refine ay aa rfl (lN ts n fin 2 a7 c8) (by simp only[go_sem,n1,n2];all_goals rfl) (B+57) a7 (fi hf1) (by simp only[go_sem,n1,n2,ho]) (InF.go hin) (fun m h=>by rw[←hp,h];rfl) ?_
  intro t m ht
  rw[ht,PR.bind_ok] at hp
  unfold mF kN
  simp only[go_sem,n1,n2]
  refine⟨_,ah.refl _,?_⟩
  simp only[go_sem,n1,n2]
  exact InF.ret (n:=m) (a:=.mk 1 0 t.num [] []) (InF.go hin) (by simp only[go_sem,n1,n2]) hp.symm (wa .nil) (by simp[pack,exV,exD,qk])
 rw[if_neg h2] at hp
 have h2i:¬(cV ts n:Int)=2:=a7
 simp only[go_sem,h2i]
 refine bJ ts n fin [103,101,116] aa rfl (by simp only[go_sem,n1,n2]) (B+57) a7 (fi hf1) (by simp only[go_sem,n1,n2,ho]) a7 (fun h=>?_) (fun h=>?_)
 ·rw[if_pos h] at hp
  have hlt:=Src.bZ h a8
  simp only[go_sem,n1,n2]
  refine bu ts (n+1) fin aa rfl [[40],[41]] (B+17) (by simp only[go_sem,n1,n2];all_goals rfl) (B+57) a7 (fi hf1) (by simp only[go_sem,n1,n2]) (by simp;omega) a7 a7 (by simp only[go_sem,n1,n2,bD]) (InF.go hin) (fun m h=>by rw[←hp,show Src.jH=[40] from rfl,show Src.ig=[41] from rfl,h];rfl) ?_
  intro m hm
  rw[show Src.jH=[40] from rfl,show Src.ig=[41] from rfl,hm,PR.bind_ok] at hp
  simp only[go_sem,n1,n2]
  refine⟨_,ah.refl _,?_⟩
  simp only[go_sem,n1,n2]
  exact InF.ret (n:=m) (a:=.mk 5 0 0 [] []) (InF.go hin) (by simp only[go_sem,n1,n2]) hp.symm (wa .nil) (by simp[pack,exV,exD,qk])
 rw[if_neg h] at hp
 simp only[go_sem,n1,n2]
 refine bJ ts n fin [40] aa rfl (by simp only[go_sem,n1,n2]) (B+57) a7 (fi hf1) (by simp only[go_sem,n1,n2,ho]) a7 (fun h=>?_) (fun h=>?_)
 ·rw[if_pos (show az ts n=Src.jH from h)] at hp
  have hlt:=Src.bZ h a8
  simp only[go_sem,n1,n2]
  refine ay aa rfl (ih.expr 1 (n+1) a7 a7 a7 a7) (by simp only[go_sem,n1,n2];all_goals rfl) (B+57) a7 (fi hf1) (by simp only[go_sem,n1,n2]) (InF.go hin) (fun m h=>by rw[←hp,h];rfl) ?_
  intro e m he
  rw[he,PR.bind_ok] at hp
  have hmn:=Src.fp k 1 (n+1) e m he
  obtain⟨ek,eo,en,es,ekd⟩:=e
  simp only[go_sem,n1,n2,exV,exD]
  refine bu ts m fin aa rfl [[41]] (B+26) (by simp only[go_sem,n1,n2];all_goals rfl) (B+57) a7 (fi hf1) (by simp only[go_sem,n1,n2]) (by simp;omega) a7 a7 (by simp only[go_sem,n1,n2,bD]) (InF.go hin) (fun m h=>by rw[←hp,show Src.ig=[41] from rfl,h];rfl) ?_
  intro m2 hm
  rw[show Src.ig=[41] from rfl,hm,PR.bind_ok] at hp
  simp only[go_sem,n1,n2]
  refine⟨_,ah.refl _,?_⟩
  simp only[go_sem,n1,n2]
  exact InF.ret (n:=m2) (a:=.mk ek eo en es ekd) (InF.go hin) (by simp only[go_sem,n1,n2]) hp.symm (wa (.d _)) (by simp[pack,exV,exD])
 rw[if_neg (show ¬az ts n=Src.jH from h)] at hp
 simp only[go_sem,n1,n2]
 refine bJ ts n fin [33] aa rfl (by simp only[go_sem,n1,n2]) (B+57) a7 (fi hf1) (by simp only[go_sem,n1,n2,ho]) a7 (fun h=>?_) (fun h=>?_)
 ·rw[if_pos h] at hp
  have hlt:=Src.bZ h a8
  simp only[go_sem,n1,n2]
  refine ay aa rfl (ih.atom (n+1) a7 a7) (by simp only[go_sem,n1,n2];all_goals rfl) (B+57) a7 (fi hf1) (by simp only[go_sem,n1,n2]) (InF.go hin) (fun m h=>by rw[←hp,h];rfl) ?_
  intro e m he
  rw[he,PR.bind_ok] at hp
  simp only[go_sem,n1,n2,exV,cD,j6]
  refine⟨_,ah.refl _,?_⟩
  simp only[go_sem,n1,n2]
  exact InF.ret (n:=m) (a:=.mk 7 0 0 [] [e]) (InF.go hin) (by simp only[go_sem,n1,n2]) hp.symm (wa (mu (l:=[e]) a7 (by simp only[go_sem,n1,n2]) (by simp only[go_sem,n1,n2,mt]) rfl)) (by simp[pack,exV,exD])
 rw[if_neg h] at hp
 simp only[go_sem,n1,n2]
 refine ay aa rfl (lN ts n fin 1 a7 c8) (by simp only[go_sem,n1,n2];all_goals rfl) (B+57) a7 (fi hf1) (by simp only[go_sem,n1,n2,ho]) (InF.go hin) (fun m h=>by rw[←hp,h];rfl) ?_
 intro t m ht
 rw[ht,PR.bind_ok] at hp
 have hm1:=Src.iC t m ht
 have hm2:=Src.eT t m ht
 unfold mF kN
 simp only[go_sem,n1,n2]
 refine bJ ts m fin [91] aa rfl (by simp only[go_sem,n1,n2]) (B+57) a7 (fi hf1) (by simp only[go_sem,n1,n2]) a7 (fun h=>?_) (fun h=>?_)
 ·rw[if_pos h] at hp
  have hlt:=Src.bZ h a8
  simp only[go_sem,n1,n2]
  refine ay aa rfl (ih.expr 1 (m+1) a7 a7 a7 a7) (by simp only[go_sem,n1,n2];all_goals rfl) (B+57) a7 (fi hf1) (by simp only[go_sem,n1,n2]) (InF.go hin) (fun m h=>by rw[←hp,h];rfl) ?_
  intro e m2 he
  rw[he,PR.bind_ok] at hp
  have hmn:=Src.fp k 1 (m+1) e m2 he
  simp only[go_sem,n1,n2,exV,cD,j6]
  refine bu ts m2 fin aa rfl [[93]] (B+48) (by simp only[go_sem,n1,n2];all_goals rfl) (B+57) a7 (fi hf1) (by simp only[go_sem,n1,n2]) (by simp;omega) a7 a7 (by simp only[go_sem,n1,n2,bD]) (InF.go hin) (fun m h=>by rw[←hp,h];rfl) ?_
  intro m3 hm
  rw[hm,PR.bind_ok] at hp
  simp only[go_sem,n1,n2]
  refine⟨_,ah.refl _,?_⟩
  simp only[go_sem,n1,n2]
  exact InF.ret (n:=m3) (a:=.mk 3 0 0 t.text [e]) (InF.go hin) (by simp only[go_sem,n1,n2]) hp.symm (wa (mu (l:=[e]) a7 (by simp only[go_sem,n1,n2]) (by simp only[go_sem,n1,n2,mt]) rfl)) (by simp[pack,exV,exD])
 rw[if_neg h] at hp
 simp only[go_sem,n1,n2]
 refine bJ ts m fin [40] aa rfl (by simp only[go_sem,n1,n2]) (B+57) a7 (fi hf1) (by simp only[go_sem,n1,n2]) a7 (fun h=>?_) (fun h=>?_)
 ·rw[if_pos (show az ts m=Src.jH from h)] at hp
  have hlt:=Src.bZ h a8
  simp only[go_sem,n1,n2]
  refine ay aa rfl (ih.args (m+1) a7 a7) (by simp only[go_sem,n1,n2];all_goals rfl) (B+57) a7 (fi hf1) (by simp only[go_sem,n1,n2]) (InF.go hin) (fun m h=>by rw[←hp,h];rfl) ?_
  intro l m2 he
  rw[he,PR.bind_ok] at hp
  simp only[go_sem,n1,n2,iV]
  refine⟨_,ah.refl _,?_⟩
  simp only[go_sem,n1,n2]
  exact InF.ret (n:=m2) (a:=.mk 4 0 0 t.text l) (InF.go hin) (by simp only[go_sem,n1,n2]) hp.symm (wa (.d _)) (by simp[pack,exV,exD,aX])
 rw[if_neg (show ¬az ts m=Src.jH from h)] at hp
 simp only[go_sem,n1,n2]
 refine⟨_,ah.refl _,?_⟩
 simp only[go_sem,n1,n2]
 exact InF.ret (n:=m) (a:=.mk 2 0 0 t.text []) (InF.go hin) (by simp only[go_sem,n1,n2]) hp.symm (wa .nil) (by simp[pack,exV,exD,qk])
theorem zn {B id g n:Nat}{s:St}{l:List Ex} (hid:B≤id) (hg:s.gen id=g) (ho:s.obj id=some (exC l)) (hn:l.length=n):ej B s [.one (.osl id g 5 0 n)] [iV l]:=
 ⟨_,_,rfl,.one (by have:=mu (B:=B) hid hg ho hn;rwa [aX] at this),rfl⟩
theorem JD {ts:List Src.Tok}{fin k n:Nat} (hl:ts.length≤100000) (ih:∀j,j≤k→ExK ts fin j) (hnl:n≤ts.length) (hk:4*(ts.length-n)+4≤k+1):eb 185 [] ts n fin (eU ts (k+1) n) iV:=by
 intro B g ob hB hf ho
 refine al B [125] ae mixed Tryz.func185 rfl b9 [.tmp 2] rfl c9 c9 (by simp[Tryz.ntmps185]) (by simp;omega) hf fun b₀ β0 s0 w0=>?_
 have n1:=nlo hB
 have n2:=nhi hB
 have hin:InF B g ob g ob:=InF.refl
 have hf1:=hf
 obtain⟨p,hp⟩:∃p,eU ts (k+1) n=p:=⟨_,rfl⟩
 rw[hp]
 rw[eU] at hp
 simp only[go_sem,n1,n2]
 refine bJ ts n fin [41] aa rfl (by simp only[go_sem,n1,n2]) (B+20) a7 (fi hf1) (by simp only[go_sem,n1,n2,ho]) a7 (fun h=>?_) (fun h=>?_)
 ·rw[if_pos (show az ts n=Src.ig from h)] at hp
  simp only[go_sem,n1,n2]
  refine⟨_,ah.refl _,?_⟩
  simp only[go_sem,n1,n2]
  exact InF.ret (n:=n+1) (a:=[]) (rs:=[.one (.d (.sl []))]) (InF.go hin) (by simp only[go_sem,n1,n2]) hp.symm ⟨_,_,rfl,.one .nil,rfl⟩ rfl
 rw[if_neg (show ¬az ts n=Src.ig from h)] at hp
 simp only[go_sem,n1,n2]
 refine ay aa rfl ((ih k (l4 _)).expr 1 n a7 a7 a7 a7) (by simp only[go_sem,n1,n2];all_goals rfl) (B+20) a7 (fi hf1) (by simp only[go_sem,n1,n2,ho]) (InF.go hin) (fun m h=>by rw[←hp,h];rfl) ?_
 intro e m he
 rw[he,PR.bind_ok] at hp
 have hm1:=Src.fp k 1 n e m he
 have hm2:=Src.dK k 1 n e m he
 simp only[go_sem,n1,n2,exV,cD,j6]
 refine ak (fun z st=>∃(j n':Nat) (acc:List Ex),z+n'=ts.length∧acc.length≤n'∧4*(ts.length-n')+2≤j∧j≤k∧st.f 0=.one (.ptr 125 (g 125) 0)∧st.f 3=.one (.osl (B+8) (st.gen (B+8)) 5 0 acc.length)∧st.obj (B+8)=some (exC acc)∧st.obj 125=some (rdC ts n' fin)∧InF B g ob st.gen st.obj∧(∀i,B+20≤i→st.obj i=none)∧fV ts j acc n'=p) (ts.length-m) ?_ ?_
 ·refine⟨k,m,[e],a7,by simp;omega,a7,l4 _,?_⟩
  simp only[go_sem,n1,n2,mt]
  exact⟨(InF.go hin),(fi hf1),hp⟩
 clear hf1 hin hp he
 rintro z f g1 ob1 ⟨j,n',acc,hz,hacc,hj,hjk,q0,q3,o8,o125,hin,hf1,hp⟩
 simp only at q0 q3 o8 o125 hin hf1
 obtain⟨j,rfl⟩:∃i,j=i+1:=⟨j-1,a7⟩
 rw[fV] at hp
 have hg:=hin.rd
 simp only[go_sem,q0]
 refine bJ ts n' fin [44] aa rfl (by simp only[go_sem,n1,n2,hg,q0]) (B+20) a7 (fi hf1) (by simp only[go_sem,n1,n2,o125]) a7 (fun h=>?_) (fun h=>?_)
 ·rw[if_pos (show az ts n'=Src.uZ from h)] at hp
  have hlt:=Src.bZ h a8
  simp only[go_sem,n1,n2,q0,q3]
  refine ay aa rfl ((ih j a7).expr 1 (n'+1) a7 a7 a7 a7) (by simp only[go_sem,n1,n2,hg,q0];all_goals rfl) (B+20) a7 (fi hf1) (by simp only[go_sem,n1,n2]) (InF.go hin) (fun m h=>by rw[←hp,h];rfl) ?_
  intro e m he
  rw[he,PR.bind_ok] at hp
  have hm1:=Src.fp j 1 (n'+1) e m he
  have hm2:=Src.dK j 1 (n'+1) e m he
  have hcl:=FU acc
  simp only[go_sem,n1,n2,exV,cD,j6,q0,q3,o8,hcl,aD]
  refine⟨a7,⟨c8,a7⟩,?_⟩
  refine ai (ts.length-m) a7 ⟨j,m,acc++[e],a7,by rw[j5];simp;omega,a7,a7,?_⟩
  simp only[go_sem,n1,n2,q0,q3,j5]
  refine⟨?_,(InF.go hin),(fi hf1),hp⟩
  rw[l6 a7,FV,mt,l6 (by simp[cD])]
 ·rw[if_neg (show ¬az ts n'=Src.uZ from h)] at hp
  simp only[go_sem,n1,n2,q0,q3]
  refine bu ts n' fin aa rfl [[41]] (B+17) (by simp only[go_sem,n1,n2,hg,q0];all_goals rfl) (B+20) a7 (fi hf1) (by simp only[go_sem,n1,n2,o125]) (by simp;omega) a7 a7 (by simp only[go_sem,n1,n2,bD]) (InF.go hin) (fun m h=>by rw[←hp,show Src.ig=[41] from rfl,h];rfl) ?_
  intro m hm
  rw[show Src.ig=[41] from rfl,hm,PR.bind_ok] at hp
  simp only[go_sem,n1,n2,q0,q3]
  refine⟨_,ah.refl _,?_⟩
  simp only[go_sem,n1,n2,q3]
  exact InF.ret (n:=m) (a:=acc) (InF.go hin) (by simp only[go_sem,n1,n2]) hp.symm (zn a7 (by simp only[go_sem,n1,n2]) (by simp only[go_sem,n1,n2,o8]) rfl) rfl
section
variable {ts:List Src.Tok}
theorem JE{fin k least n:Nat} (hl:ts.length≤100000) (ih:∀j,j≤k→ExK ts fin j) (hle:1≤least) (hle2:least≤100) (hnl:n≤ts.length) (hk:4*(ts.length-n)+3≤k+1):eb 162 [iv .i64 least] ts n fin (cj ts (k+1) least n) exV:=by
 intro B g ob hB hf ho
 refine al B [125] ae mixed Tryz.func162 rfl b9 [.cell 4 215] rfl c9 c9 (by simp[Tryz.ntmps162]) (by simp;omega) hf fun b₀ β0 s0 w0=>?_
 have n1:=nlo hB
 have n2:=nhi hB
 have hin:InF B g ob g ob:=InF.refl
 have hf1:=hf
 obtain⟨p,hp⟩:∃p,cj ts (k+1) least n=p:=⟨_,rfl⟩
 rw[hp]
 rw[cj] at hp
 simp only[go_sem,n1,n2]
 refine ay aa rfl ((ih k (l4 _)).atom n a7 a7) (by simp only[go_sem,n1,n2];all_goals rfl) (B+35) a7 (fi hf1) (by simp only[go_sem,n1,n2,ho]) (InF.go hin) (fun m h=>by rw[←hp,h];rfl) ?_
 intro e m he
 rw[he,PR.bind_ok] at hp
 have hm1:=Src.wS k n e m he
 have hm2:=Src.tR k n e m he
 obtain⟨ek,eo,en,es,ekd⟩:=e
 simp only[go_sem,n1,n2,exV,exD]
 refine ak (fun z st=>∃(j n':Nat) (left:Ex),z+n'=ts.length∧4*(ts.length-n')+2≤j∧j≤k∧st.f 0=.one (.ptr 125 (g 125) 0)∧st.f 1=iv .i64 least∧st.f 4=.one (.ptr (B+4) (st.gen (B+4)) 0)∧st.f 5=.one (.ptr (B+5) (st.gen (B+5)) 0)∧
  (∃a b c d e,st.obj (B+4)=some [a,b,c,d,e])∧st.obj (B+5)=some ((exD left).map .d)∧st.obj 125=some (rdC ts n' fin)∧InF B g ob st.gen st.obj∧(∀i,B+35≤i→st.obj i=none)∧fU ts j least left n'=p) (ts.length-m) ?_ ?_
 ·refine⟨k,m,.mk ek eo en es ekd,a7,a7,l4 _,?_⟩
  simp only[go_sem,n1,n2,exD]
  exact⟨⟨_,_,_,_,_,rfl,rfl,rfl,rfl,rfl⟩,(InF.go hin),(fi hf1),hp⟩
 clear hf1 hin hp he
 rintro z f g1 ob1 ⟨j,n',left,hz,hj,hjk,q0,q1,q4,q5,⟨a,b,c,d,e,o4⟩,o5,o125,hin,hf1,hp⟩
 simp only at q0 q1 q4 q5 o4 o5 o125 hin hf1
 obtain⟨j,rfl⟩:∃i,j=i+1:=⟨j-1,a7⟩
 rw[fU] at hp
 have hg:=hin.rd
 obtain⟨lk,lo,ln,ls,lkd⟩:=left
 simp only[exD,l7,v7] at o5
 have hsl:=FT (az ts n')
 simp only[go_sem,q0]
 refine Av ts n' fin aa rfl (by simp only[go_sem,n1,n2,hg,q0]) (B+35) a7 (fi hf1) (by simp only[go_sem,n1,n2,o125]) ?_
 simp only[go_sem,q0]
 refine aR aa rfl (by simp only[go_sem,q0];exact JA _) (by simp only[go_sem];rfl) ?_
 rintro _ rfl
 unfold zj
 by_cases hlt:(Src.tO (az ts n')).2.2<least
 ·rw[if_pos hlt] at hp
  have hli:((Src.tO (az ts n')).2.2:Int)<(least:Int):=a7
  simp only[go_sem,q0,q1,q4,q5,hli,o4,o5]
  refine⟨_,ah.refl _,?_⟩
  simp only[go_sem,q4,n1,n2]
  exact InF.ret (n:=n') (a:=.mk lk lo ln ls lkd) (InF.go hin) (by simp only[go_sem,n1,n2,o125]) hp.symm (wa (.d _)) (by simp[pack,exV,exD])
 rw[if_neg hlt] at hp
 have hli:¬((Src.tO (az ts n')).2.2:Int)<(least:Int):=a7
 have hnl':n'<ts.length:=by
  refine Src.bZ rfl fun h=>?_
  rw[h,CL] at hlt
  omega
 have hw:=am (k:=n') a7
 have hws:=am (k:=(Src.tO (az ts n')).2.2) a7
 unfold rdC gL at o125
 simp only[go_sem,q0,q1,q4,q5,hli,o4,o5,hg,o125,hw,n1,n2]
 obtain⟨right,m',hlook⟩:=look (cj ts j ((Src.tO (az ts n')).2.2+1) (n'+1))
 refine jc (∃a m,cj ts j ((Src.tO (az ts n')).2.2+1) (n'+1)=.ok a m) ae mixed aa [B+32,125] [([5],[1],[],false),([0],[],[],false),([7],[],[],false),([29],[],[],false),([28,30],[],[1],false),([27,31],[],[0],false),([6],[0,1],[],false),([33,32],[],[],true)] 2 rfl j0 rfl (by simp;omega) ?_
 simp only[go_sem]
 (apply bq;(case hf=>rfl);(case hg=>first|exact w9|exact⟨_,rfl,by decide,rfl⟩);(case h1=>intro fa ga oa K' hK;simp only[go_sem,q5,o5,n1,n2] at hK ⊢;exact hK))
 iterate 2 (apply bq;(case hf=>rfl);(case hg=>first|exact w9|exact⟨_,rfl,by decide,rfl⟩);(case h1=>intro fa ga oa K' hK;simp only[go_sem,q0] at hK ⊢;exact hK))
 (apply bq;(case hf=>rfl);(case hg=>first|exact w9|exact⟨_,rfl,by decide,rfl⟩);(case h1=>intro fa ga oa K' hK;simp only[go_sem,hws] at hK ⊢;exact hK))
 refine jd (v:=exV right) (y:=some (rdC ts m' fin)) w9 a8 (fun fa ga oa K' hK=>?_) ?_
 ·simp only[go_sem,q0] at hK ⊢
  refine ay (k:=bx K') aa rfl ((ih j a7).expr ((Src.tO (az ts n')).2.2+1) (n'+1) a7 a7 a7 a7) (by simp only[go_sem,n1,n2,hg];all_goals rfl) (B+35) a7 (fi hf1) (by simp only[go_sem,n1,n2,rdC,gL]) (InF.go hin) (fun m h=>by rw[←hp,h];rfl) ?_
  intro a2 m2 h2
  have e:=hlook ⟨_,_,h2⟩
  rw[h2] at e
  cases e
  simp only[go_sem]
  exact hK ⟨_,_,h2⟩
 (apply iy;(case hf=>rfl);(case hg=>first|exact w9|exact⟨_,rfl,by decide,rfl⟩);(case h1=>intro fa ga oa K' hK;simp only[go_sem,exV,cD,j6] at hK ⊢;exact hK))
 (apply bq;(case hf=>rfl);(case hg=>first|exact w9|exact⟨_,rfl,by decide,rfl⟩);(case h1=>intro fa ga oa K' hK;simp only[go_sem,n1,n2] at hK ⊢;exact hK))
 refine je rfl w9 ?_
 intro K' hK'
 simp only[go_sem,n1,n2]
 refine hK' _ ?_
 clear hK' K'
 intro hz'
 have e:=hlook hz'
 rw[e,PR.bind_ok] at hp
 have hm1:=Src.fp j ((Src.tO (az ts n')).2.2+1) (n'+1) right m' e
 have hm2:=Src.dK j ((Src.tO (az ts n')).2.2+1) (n'+1) right m' e
 simp only[go_sem,n1,n2,q5,o5,q0,q1,q4]
 refine⟨ts.length-m',_,a7,Bi (id:=B+32) (o:=B+5) (cells:=[.d (.int .i64 (Src.tO (az ts n')).1),.d (.int .i64 (Src.tO (az ts n')).2.1),.d (.int .u32 0),.d (.str []),.osl (B+32) (nxC (aD Tt 176+1) (g1 (B+32))) 5 0 2]) (cs:=[.d (.int .i64 (Src.tO (az ts n')).1),.d (.int .i64 (Src.tO (az ts n')).2.1),.d (.int .u32 0),.d (.str []),.d (.sl [exD (.mk lk lo ln ls lkd),exD right])]) (by simp only[go_sem,n1,n2]) rfl ?_,?_⟩
 ·intro i c c' hc hc'
  match i,hc,hc' with
  |0,hc,hc'=>cases hc;cases hc';exact .inl rfl
  |1,hc,hc'=>cases hc;cases hc';exact .inl rfl
  |2,hc,hc'=>cases hc;cases hc';exact .inl rfl
  |3,hc,hc'=>cases hc;cases hc';exact .inl rfl
  |4,hc,hc'=>
    cases hc;cases hc'
    refine .inr ⟨_,dX (P:=(· = B+32)) rfl ?_ [.mk lk lo ln ls lkd,right] exD (cells:=exC [.mk lk lo ln ls lkd,right]) ?_ rfl (fun a _=>cD a) rfl,rfl⟩
    ·simp only[go_sem,n1,n2]
    ·simp only[go_sem,n1,n2]
     simp[exC,exD]
 refine⟨j,m',.mk (Src.tO (az ts n')).1 (Src.tO (az ts n')).2.1 0 [] [.mk lk lo ln ls lkd,right],a7,a7,a7,?_⟩
 simp only[St.drop1]
 simp only[go_sem,n1,n2,q0,q1,q4,exD,qk]
 exact⟨q5,⟨_,_,_,_,_,o4⟩,(InF.go hin),(fi hf1),hp⟩
theorem Ax (fin:Nat) (hl:ts.length≤100000) (k:Nat):ExK ts fin k:=by
 induction k using Nat.strongRecOn with
 |ind k ih=>
   cases k with
   |zero=>exact⟨fun _ _ _ _ _ h=>absurd h a7,fun _ _ h=>absurd h a7,fun _ _ h=>absurd h a7⟩
   |succ k=>
     exact⟨fun least n h1 h2 h3 h4=>JE hl (fun j hj=>ih j a7) h1 h2 h3 h4,fun n h1 h2=>JC hl (ih k a7) h1 h2,fun n h1 h2=>JD hl (fun j hj=>ih j a7) h1 h2⟩
end
end
section
attribute [local congr] Go.Am.ite_cc
open Go Go.Am Go.Asm
open Go.Src (PR cV az takeN br Ex Stm cj fU eu eU fV iE ij dD dv)
section
def jo (l:List Str):AV:=.one (.d (.sl (l.map fun s=>[.str s])))
theorem pd (l:List Str):(bD l).length=l.length:=j6 _
theorem CM {B id g n:Nat}{s:St}{l:List Str} (hid:B≤id) (hg:s.gen id=g) (ho:s.obj id=some (bD l)) (hn:l.length=n):ej B s [.one (.osl id g 1 0 n)] [jo l]:=
 ⟨_,_,rfl,.one (dX hid hg l (fun s=>[.str s]) ho (by unfold bD;clear ho hn;induction l with|nil=>rfl|cons a l ih=>simpa using ih) (fun _ _=>rfl) hn),rfl⟩
variable {ts:List Src.Tok}{fin k n:Nat}
theorem uM (hl:ts.length≤100000) (hnl:n≤ts.length) (hk:ts.length-n+1≤k):eb 48 [] ts n fin (dD ts k n) jo:=by
 intro B g ob hB hf ho
 refine al B [125] ae mixed Tryz.func48 rfl b9 [.tmp 2] rfl c9 c9 (by simp[Tryz.ntmps48]) (by simp;omega) hf fun b₀ β0 s0 w0=>?_
 have n1:=nlo hB
 have n2:=nhi hB
 have hin:InF B g ob g ob:=InF.refl
 have hf1:=hf
 obtain⟨p,hp⟩:∃p,dD ts k n=p:=⟨_,rfl⟩
 rw[hp]
 rw[dD] at hp
 simp only[go_sem,n1,n2]
 refine ay aa rfl (lN ts n fin 1 a7 c8) (by simp only[go_sem,n1,n2];all_goals rfl) (B+17) a7 (fi hf1) (by simp only[go_sem,n1,n2,ho]) (InF.go hin) (fun m h=>by rw[←hp,h];rfl) ?_
 intro t m ht
 rw[ht,PR.bind_ok] at hp
 have hm1:=Src.iC t m ht
 have hm2:=Src.eT t m ht
 unfold mF kN
 simp only[go_sem,n1,n2]
 refine ak (fun z st=>∃(j n':Nat) (acc:List Str),z+n'=ts.length∧acc.length≤n'∧ts.length-n'+1≤j∧st.f 0=.one (.ptr 125 (g 125) 0)∧st.f 3=.one (.osl (B+7) (st.gen (B+7)) 1 0 acc.length)∧st.obj (B+7)=some (bD acc)∧st.obj 125=some (rdC ts n' fin)∧InF B g ob st.gen st.obj∧(∀i,B+17≤i→st.obj i=none)∧dv ts j acc n'=p) (ts.length-m) ?_ ?_
 ·refine⟨k,m,[t.text],a7,by simp;omega,a7,?_⟩
  simp only[go_sem,n1,n2,bD]
  exact⟨(InF.go hin),(fi hf1),hp⟩
 clear hf1 hin hp
 rintro z f g1 ob1 ⟨j,n',acc,hz,hacc,hj,q0,q3,o7,o125,hin,hf1,hp⟩
 simp only at q0 q3 o7 o125 hin hf1
 obtain⟨j,rfl⟩:∃i,j=i+1:=⟨j-1,a7⟩
 rw[dv] at hp
 have hg:=hin.rd
 simp only[go_sem,q0]
 refine bJ ts n' fin [44] aa rfl (by simp only[go_sem,n1,n2,hg,q0]) (B+17) a7 (fi hf1) (by simp only[go_sem,n1,n2,o125]) a7 (fun h=>?_) (fun h=>?_)
 ·rw[if_pos (show az ts n'=Src.uZ from h)] at hp
  have hlt:=Src.bZ h a8
  simp only[go_sem,n1,n2,q0,q3]
  refine ay aa rfl (lN ts (n'+1) fin 1 a7 c8) (by simp only[go_sem,n1,n2,hg,q0];all_goals rfl) (B+17) a7 (fi hf1) (by simp only[go_sem,n1,n2]) (InF.go hin) (fun m h=>by rw[←hp,h];rfl) ?_
  intro t m ht
  rw[ht,PR.bind_ok] at hp
  have hm1:=Src.iC t m ht
  have hm2:=Src.eT t m ht
  have hcl:=pd acc
  unfold mF kN
  simp only[go_sem,n1,n2,q0,q3,o7,hcl,aD]
  refine⟨a7,⟨c8,a7⟩,?_⟩
  refine ai (ts.length-m) a7 ⟨j,m,acc++[t.text],a7,by rw[j5];simp;omega,a7,?_⟩
  simp only[go_sem,n1,n2,q0,q3,j5]
  refine⟨?_,(InF.go hin),(fi hf1),hp⟩
  rw[l6 a7]
  simp[bD]
 ·rw[if_neg (show ¬az ts n'=Src.uZ from h)] at hp
  simp only[go_sem,n1,n2,q0,q3]
  refine⟨_,ah.refl _,?_⟩
  simp only[go_sem,n1,n2,q3]
  exact InF.ret (n:=n') (a:=acc) (InF.go hin) (by simp only[go_sem,n1,n2,o125]) hp.symm (CM a7 (by simp only[go_sem,n1,n2]) (by simp only[go_sem,n1,n2,o7]) rfl) rfl
theorem uN (hl:ts.length≤100000) (hnl:n≤ts.length) (hk:4*(ts.length-n)+3≤k):eb 161 [] ts n fin (iE ts k n) iV:=by
 intro B g ob hB hf ho
 refine al B [125] ae mixed Tryz.func161 rfl b9 [.tmp 2] rfl c9 c9 (by simp[Tryz.ntmps161]) (by simp;omega) hf fun b₀ β0 s0 w0=>?_
 have n1:=nlo hB
 have n2:=nhi hB
 have hin:InF B g ob g ob:=InF.refl
 have hf1:=hf
 obtain⟨p,hp⟩:∃p,iE ts k n=p:=⟨_,rfl⟩
 rw[hp]
 rw[iE] at hp
 simp only[go_sem,n1,n2]
 refine bu ts n fin aa rfl [[40]] (B+5) (by simp only[go_sem,n1,n2];all_goals rfl) (B+14) a7 (fi hf1) (by simp only[go_sem,n1,n2,ho]) (by simp;omega) a7 a7 (by simp only[go_sem,n1,n2,bD]) (InF.go hin) (fun m h=>by rw[←hp,show Src.jH=[40] from rfl,h];rfl) ?_
 intro m hm
 rw[show Src.jH=[40] from rfl,hm,PR.bind_ok] at hp
 have hm1:=Src.bU (ts:=ts) a8 () m hm
 have hm2:=Src.bR () m hm
 simp only[go_sem,n1,n2]
 refine ay aa rfl ((Ax fin hl k).expr 1 m a7 a7 a7 a7) (by simp only[go_sem,n1,n2];all_goals rfl) (B+14) a7 (fi hf1) (by simp only[go_sem,n1,n2]) (InF.go hin) (fun m h=>by rw[←hp,h];rfl) ?_
 intro e m2 he
 rw[he,PR.bind_ok] at hp
 have hm3:=Src.fp k 1 m e m2 he
 obtain⟨ek,eo,en,es,ekd⟩:=e
 simp only[go_sem,n1,n2,exV,exD]
 refine bu ts m2 fin aa rfl [[41]] (B+10) (by simp only[go_sem,n1,n2];all_goals rfl) (B+14) a7 (fi hf1) (by simp only[go_sem,n1,n2]) (by simp;omega) a7 a7 (by simp only[go_sem,n1,n2,bD]) (InF.go hin) (fun m h=>by rw[←hp,show Src.ig=[41] from rfl,h];rfl) ?_
 intro m3 hm
 rw[show Src.ig=[41] from rfl,hm,PR.bind_ok] at hp
 simp only[go_sem,n1,n2]
 refine⟨_,ah.refl _,?_⟩
 simp only[go_sem,n1,n2]
 exact InF.ret (n:=m3) (a:=[.mk ek eo en es ekd]) (InF.go hin) (by simp only[go_sem,n1,n2]) hp.symm (zn a7 (by simp only[go_sem,n1,n2]) (by simp only[go_sem,n1,n2];simp[exC,exD]) rfl) rfl
end
end
section
attribute [local congr] Go.Am.ite_cc
open Go Go.Am Go.Asm
open Go.Src (PR cV az takeN br Ex Stm cj fU eu eU fV iE ij dD iS gN ct)
mutual
def smD:Stm→List D
 |.mk kind name e th el=>[.int .i64 kind,.str name,.sl (qk e),.sl (ql th),.sl (ql el)]
def ql:List Stm→List (List D)
 |[]=>[]
 |s::l=>smD s::ql l
end
theorem fk:∀l:List Stm,ql l=l.map smD
 |[]=>by simp[ql]
 |e::l=>by simp[ql,fk l]
theorem jF (e:Stm):(smD e).length=5:=by cases e;simp[smD]
def smV (e:Stm):AV:=.agg ((smD e).map .d)
def jp (l:List Stm):AV:=.one (.d (.sl (l.map smD)))
def smC (l:List Stm):List C:=l.flatMap fun a=>(smD a).map .d
theorem FW (l:List Stm):(smC l).length=l.length*5:=by
 induction l with
 |nil=>rfl
 |cons a l ih=>simp only[smC,B4,j5,j6,jF,j7] at ih ⊢;omega
theorem FX (e:Stm):smC [e]=(smD e).map .d:=by simp[smC]
theorem FY (l m:List Stm):smC (l++m)=smC l++smC m:=by simp[smC]
theorem FZ {B id g n:Nat}{s:St}{l:List Stm} (hid:B≤id) (hg:s.gen id=g) (ho:s.obj id=some (smC l)) (hn:l.length=n):ej B s [.one (.osl id g 5 0 n)] [jp l]:=
 ⟨_,_,rfl,.one (dX hid hg l smD ho rfl (fun a _=>jF a) hn),rfl⟩
theorem mP {B:Nat}{s:St}{a b:D}{c3 c4 c5:C}{x3 x4 x5:D} (h3:eW (B≤·) s c3 x3) (h4:eW (B≤·) s c4 x4) (h5:eW (B≤·) s c5 x5):ej B s [.agg [.d a,.d b,c3,c4,c5]] [.agg [.d a,.d b,.d x3,.d x4,.d x5]]:=
 ⟨_,_,rfl,.agg (xs:=[a,b,x3,x4,x5]) rfl (fun i e he=>by
  match i,he with
  |0,he=>cases he;exact⟨_,rfl,.d _⟩
  |1,he=>cases he;exact⟨_,rfl,.d _⟩
  |2,he=>cases he;exact⟨_,rfl,h3⟩
  |3,he=>cases he;exact⟨_,rfl,h4⟩
  | 4,he=>cases he;exact⟨_,rfl,h5⟩),rfl⟩
theorem Ga {ts:List Src.Tok}{fin k n:Nat} (hl:ts.length≤100000) (hnl:n≤ts.length) (hk:4*(ts.length-n)+3≤k):eb 164 [] ts n fin (ij ts k n) smV:=by
 intro B g ob hB hf ho
 refine al B [125] ae mixed Tryz.func164 rfl b9 [.cell 2 178] rfl c9 c9 (by simp[Tryz.ntmps164]) (by simp;omega) hf fun b₀ β0 s0 w0=>?_
 have n1:=nlo hB
 have n2:=nhi hB
 have hin:InF B g ob g ob:=InF.refl
 have hf1:=hf
 obtain⟨p,hp⟩:∃p,ij ts k n=p:=⟨_,rfl⟩
 rw[hp]
 rw[ij] at hp
 simp only[go_sem,n1,n2]
 refine ay aa rfl (lN ts n fin 1 a7 c8) (by simp only[go_sem,n1,n2];all_goals rfl) (B+44) a7 (fi hf1) (by simp only[go_sem,n1,n2,ho]) (InF.go hin) (fun m h=>by rw[←hp,h];rfl) ?_
 intro t m ht
 rw[ht,PR.bind_ok] at hp
 have hm1:=Src.iC t m ht
 have hm2:=Src.eT t m ht
 unfold mF kN
 simp only[go_sem,n1,n2]
 refine bJ ts m fin [61] aa rfl (by simp only[go_sem,n1,n2]) (B+44) a7 (fi hf1) (by simp only[go_sem,n1,n2]) a7 (fun h=>?_) (fun h=>?_)
 ·rw[if_pos h] at hp
  have hlt:=Src.bZ h a8
  simp only[go_sem,n1,n2]
  refine ay aa rfl ((Ax fin hl k).expr 1 (m+1) a7 a7 a7 a7) (by simp only[go_sem,n1,n2];all_goals rfl) (B+44) a7 (fi hf1) (by simp only[go_sem,n1,n2]) (InF.go hin) (fun m h=>by rw[←hp,h];rfl) ?_
  intro e m2 he
  rw[he,PR.bind_ok,PR.bind_ok] at hp
  have hm3:=Src.fp k 1 (m+1) e m2 he
  simp only[go_sem,n1,n2,exV,cD,j6]
  refine bu ts m2 fin aa rfl [[59]] (B+41) (by simp only[go_sem,n1,n2];all_goals rfl) (B+44) a7 (fi hf1) (by simp only[go_sem,n1,n2]) (by simp;omega) a7 a7 (by simp only[go_sem,n1,n2,bD]) (InF.go hin) (fun m h=>by rw[←hp,show Src.jI=[59] from rfl,h];rfl) ?_
  intro m3 hm
  rw[show Src.jI=[59] from rfl,hm,PR.bind_ok] at hp
  simp only[go_sem,n1,n2]
  refine⟨_,ah.refl _,?_⟩
  simp only[go_sem,n1,n2]
  exact InF.ret (n:=m3) (a:=.mk 1 t.text [e] [] []) (InF.go hin) (by simp only[go_sem,n1,n2]) hp.symm (mP (mu (l:=[e]) a7 (by simp only[go_sem,n1,n2]) (by simp only[go_sem,n1,n2,mt]) rfl) .nil .nil) (by simp[pack,smV,smD,ql])
 rw[if_neg h] at hp
 simp only[go_sem,n1,n2]
 refine bJ ts m fin [91] aa rfl (by simp only[go_sem,n1,n2]) (B+44) a7 (fi hf1) (by simp only[go_sem,n1,n2]) a7 (fun h=>?_) (fun h=>?_)
 ·rw[if_pos h] at hp
  have hlt:=Src.bZ h a8
  simp only[go_sem,n1,n2]
  refine ay aa rfl ((Ax fin hl k).expr 1 (m+1) a7 a7 a7 a7) (by simp only[go_sem,n1,n2];all_goals rfl) (B+44) a7 (fi hf1) (by simp only[go_sem,n1,n2]) (InF.go hin) (fun m h=>by rw[←hp,h];rfl) ?_
  intro e m2 he
  rw[he,PR.bind_ok] at hp
  have hm3:=Src.fp k 1 (m+1) e m2 he
  have hm3':=Src.dK k 1 (m+1) e m2 he
  obtain⟨ek,eo,en,es,ekd⟩:=e
  simp only[go_sem,n1,n2,exV,exD]
  refine bu ts m2 fin aa rfl [[93],[61]] (B+25) (by simp only[go_sem,n1,n2];all_goals rfl) (B+44) a7 (fi hf1) (by simp only[go_sem,n1,n2]) (by simp;omega) a7 a7 (by simp only[go_sem,n1,n2,bD]) (InF.go hin) (fun m h=>by rw[←hp,h];rfl) ?_
  intro m3 hm
  rw[hm,PR.bind_ok] at hp
  have hm4:=Src.bU (ts:=ts) a8 () m3 hm
  have hm5:=Src.bR () m3 hm
  simp only[go_sem,n1,n2]
  obtain⟨right,m',hlook⟩:=look (cj ts k 1 m3)
  refine jc (∃a m,cj ts k 1 m3=.ok a m) ae mixed aa [B+31,125] [([4],[1],[],false),([0],[],[],false),([29],[],[1],false),([28,30],[],[0],false),([3],[0,1],[],false),([32,31],[],[],true)] 2 rfl j0 rfl (by simp;omega) ?_
  simp only[go_sem]
  (apply bq;(case hf=>rfl);(case hg=>first|exact w9|exact⟨_,rfl,by decide,rfl⟩);(case h1=>intro fa ga oa K' hK;simp only[go_sem,n1,n2] at hK ⊢;exact hK))
  (apply bq;(case hf=>rfl);(case hg=>first|exact w9|exact⟨_,rfl,by decide,rfl⟩);(case h1=>intro fa ga oa K' hK;simp only[go_sem] at hK ⊢;exact hK))
  refine jd (v:=exV right) (y:=some (rdC ts m' fin)) w9 a8 (fun fa ga oa K' hK=>?_) ?_
  ·simp only[go_sem,n1,n2] at hK ⊢
   refine ay (k:=bx K') aa rfl ((Ax fin hl k).expr 1 m3 a7 a7 a7 a7) (by simp only[go_sem,n1,n2];all_goals rfl) (B+44) a7 (fi hf1) (by simp only[go_sem,n1,n2]) (InF.go hin) (fun m h=>by rw[←hp,h];rfl) ?_
   intro a2 q2 h2
   have e:=hlook ⟨_,_,h2⟩
   rw[h2] at e
   cases e
   simp only[go_sem,n1,n2]
   exact hK ⟨_,_,h2⟩
  (apply iy;(case hf=>rfl);(case hg=>first|exact w9|exact⟨_,rfl,by decide,rfl⟩);(case h1=>intro fa ga oa K' hK;simp only[go_sem,exV,cD,j6,n1,n2] at hK ⊢;exact hK))
  (apply bq;(case hf=>rfl);(case hg=>first|exact w9|exact⟨_,rfl,by decide,rfl⟩);(case h1=>intro fa ga oa K' hK;simp only[go_sem,n1,n2] at hK ⊢;exact hK))
  refine je rfl w9 ?_
  intro K' hK'
  simp only[go_sem,n1,n2]
  refine hK' _ ?_
  clear hK' K'
  intro hz'
  have e:=hlook hz'
  rw[e,PR.bind_ok,PR.bind_ok] at hp
  have hm6:=Src.fp k 1 m3 right m' e
  simp only[go_sem,n1,n2]
  refine bu ts m' fin aa rfl [[59]] (B+41) (by simp only[go_sem,n1,n2];all_goals rfl) (B+44) a7 (fi hf1) (by simp only[go_sem,n1,n2]) (by simp;omega) a7 a7 (by simp only[go_sem,n1,n2,bD]) (InF.go hin) (fun m h=>by rw[←hp,show Src.jI=[59] from rfl,h];rfl) ?_
  intro m4 hm
  rw[show Src.jI=[59] from rfl,hm,PR.bind_ok] at hp
  simp only[go_sem,n1,n2]
  refine⟨_,ah.refl _,?_⟩
  simp only[go_sem,n1,n2]
  exact InF.ret (n:=m4) (a:=.mk 2 t.text [.mk ek eo en es ekd,right] [] []) (InF.go hin) (by simp only[go_sem,n1,n2]) hp.symm (mP (mu (l:=[.mk ek eo en es ekd,right]) a7 (by simp only[go_sem,n1,n2]) (by simp only[go_sem,n1,n2];simp[exC,exD]) rfl) .nil .nil) (by simp[pack,smV,smD,ql])
 rw[if_neg h] at hp
 simp only[go_sem,n1,n2]
 refine bJ ts m fin [40] aa rfl (by simp only[go_sem,n1,n2]) (B+44) a7 (fi hf1) (by simp only[go_sem,n1,n2]) a7 (fun h=>?_) (fun h=>?_)
 ·rw[if_pos (show az ts m=Src.jH from h)] at hp
  have hlt:=Src.bZ h a8
  simp only[go_sem,n1,n2]
  refine ay aa rfl ((Ax fin hl k).args (m+1) a7 a7) (by simp only[go_sem,n1,n2];all_goals rfl) (B+44) a7 (fi hf1) (by simp only[go_sem,n1,n2]) (InF.go hin) (fun m h=>by rw[←hp,h];rfl) ?_
  intro l m2 he
  rw[he,PR.bind_ok,PR.bind_ok] at hp
  have hm3:=Src.wT k (m+1) l m2 he
  simp only[go_sem,n1,n2,iV]
  refine bu ts m2 fin aa rfl [[59]] (B+41) (by simp only[go_sem,n1,n2];all_goals rfl) (B+44) a7 (fi hf1) (by simp only[go_sem,n1,n2]) (by simp;omega) a7 a7 (by simp only[go_sem,n1,n2,bD]) (InF.go hin) (fun m h=>by rw[←hp,show Src.jI=[59] from rfl,h];rfl) ?_
  intro m3 hm
  rw[show Src.jI=[59] from rfl,hm,PR.bind_ok] at hp
  simp only[go_sem,n1,n2]
  refine⟨_,ah.refl _,?_⟩
  simp only[go_sem,n1,n2]
  exact InF.ret (n:=m3) (a:=.mk 6 t.text l [] []) (InF.go hin) (by simp only[go_sem,n1,n2]) hp.symm (mP (.d _) .nil .nil) (by simp[pack,smV,smD,ql,aX])
 rw[if_neg (show ¬az ts m=Src.jH from h)] at hp
 simp only[go_sem,n1,n2]
 exact Aw ts m fin aa rfl (by simp only[go_sem,n1,n2]) (by simp only[go_sem,n1,n2]) (InF.go hin) hp.symm
section
structure SmK (ts:List Src.Tok) (fin k:Nat):Prop where
 stmt:∀(n:Nat),n≤ts.length→4*(ts.length-n)+4≤k→eb 112 [] ts n fin (iS ts k n) smV
 body:∀(n:Nat),n≤ts.length→4*(ts.length-n)+6≤k→eb 163 [] ts n fin (gN ts k n) jp
 stmts:∀(n:Nat),n≤ts.length→4*(ts.length-n)+5≤k→eb 80 [] ts n fin (ct ts k [] n) jp
variable {ts:List Src.Tok}{fin k n:Nat}
theorem Jp (hl:ts.length≤100000) (ih:SmK ts fin k) (hnl:n≤ts.length) (hk:4*(ts.length-n)+4≤k+1):eb 112 [] ts n fin (iS ts (k+1) n) smV:=by
 intro B g ob hB hf ho
 refine al B [125] ae mixed Tryz.func112 rfl b9 [.cell 2 178] rfl c9 c9 (by simp[Tryz.ntmps112]) (by simp;omega) hf fun b₀ β0 s0 w0=>?_
 have n1:=nlo hB
 have n2:=nhi hB
 have hin:InF B g ob g ob:=InF.refl
 have hf1:=hf
 obtain⟨p,hp⟩:∃p,iS ts (k+1) n=p:=⟨_,rfl⟩
 rw[hp]
 rw[iS] at hp
 simp only[go_sem,n1,n2]
 refine bJ ts n fin [112,117,116] aa rfl (by simp only[go_sem,n1,n2]) (B+55) a7 (fi hf1) (by simp only[go_sem,n1,n2,ho]) a7 (fun h=>?_) (fun h=>?_)
 ·rw[if_pos h] at hp
  have hlt:=Src.bZ h a8
  simp only[go_sem,n1,n2]
  refine ay aa rfl (uN hl (k:=k) (n:=n+1) a7 a7) (by simp only[go_sem,n1,n2];all_goals rfl) (B+55) a7 (fi hf1) (by simp only[go_sem,n1,n2]) (InF.go hin) (fun m h=>by rw[←hp,h];rfl) ?_
  intro l m he
  rw[he,PR.bind_ok] at hp
  have hm3:=Src.pv l m he
  simp only[go_sem,n1,n2,iV]
  refine bu ts m fin aa rfl [[59]] (B+13) (by simp only[go_sem,n1,n2];all_goals rfl) (B+55) a7 (fi hf1) (by simp only[go_sem,n1,n2]) (by simp;omega) a7 a7 (by simp only[go_sem,n1,n2,bD]) (InF.go hin) (fun m h=>by rw[←hp,show Src.jI=[59] from rfl,h];rfl) ?_
  intro m3 hm
  rw[show Src.jI=[59] from rfl,hm,PR.bind_ok] at hp
  simp only[go_sem,n1,n2]
  refine⟨_,ah.refl _,?_⟩
  simp only[go_sem,n1,n2]
  exact InF.ret (n:=m3) (a:=.mk 3 [] l [] []) (InF.go hin) (by simp only[go_sem,n1,n2]) hp.symm (mP (.d _) .nil .nil) (by simp[pack,smV,smD,ql,aX])
 rw[if_neg h] at hp
 simp only[go_sem,n1,n2]
 refine bJ ts n fin [114,101,116,117,114,110] aa rfl (by simp only[go_sem,n1,n2]) (B+55) a7 (fi hf1) (by simp only[go_sem,n1,n2,ho]) a7 (fun h=>?_) (fun h=>?_)
 ·rw[if_pos h] at hp
  have hlt:=Src.bZ h a8
  simp only[go_sem,n1,n2]
  refine bJ ts (n+1) fin [59] aa rfl (by simp only[go_sem,n1,n2]) (B+55) a7 (fi hf1) (by simp only[go_sem,n1,n2]) a7 (fun h=>?_) (fun h=>?_)
  ·rw[if_pos (show az ts (n+1)=Src.jI from h)] at hp
   simp only[go_sem,n1,n2]
   refine⟨_,ah.refl _,?_⟩
   simp only[go_sem,n1,n2]
   exact InF.ret (n:=n+2) (a:=.mk 7 [] [] [] []) (InF.go hin) (by simp only[go_sem,n1,n2]) hp.symm (mP .nil .nil .nil) (by simp[pack,smV,smD,ql,qk])
  rw[if_neg (show ¬az ts (n+1)=Src.jI from h)] at hp
  simp only[go_sem,n1,n2]
  refine ay aa rfl ((Ax fin hl k).expr 1 (n+1) a7 a7 a7 a7) (by simp only[go_sem,n1,n2];all_goals rfl) (B+55) a7 (fi hf1) (by simp only[go_sem,n1,n2]) (InF.go hin) (fun m h=>by rw[←hp,h];rfl) ?_
  intro e m2 he
  rw[he,PR.bind_ok] at hp
  have hm3:=Src.fp k 1 (n+1) e m2 he
  simp only[go_sem,n1,n2,exV,cD,j6]
  refine bu ts m2 fin aa rfl [[59]] (B+28) (by simp only[go_sem,n1,n2];all_goals rfl) (B+55) a7 (fi hf1) (by simp only[go_sem,n1,n2]) (by simp;omega) a7 a7 (by simp only[go_sem,n1,n2,bD]) (InF.go hin) (fun m h=>by rw[←hp,show Src.jI=[59] from rfl,h];rfl) ?_
  intro m3 hm
  rw[show Src.jI=[59] from rfl,hm,PR.bind_ok] at hp
  simp only[go_sem,n1,n2]
  refine⟨_,ah.refl _,?_⟩
  simp only[go_sem,n1,n2]
  exact InF.ret (n:=m3) (a:=.mk 7 [] [e] [] []) (InF.go hin) (by simp only[go_sem,n1,n2]) hp.symm (mP (mu (l:=[e]) a7 (by simp only[go_sem,n1,n2]) (by simp only[go_sem,n1,n2,mt]) rfl) .nil .nil) (by simp[pack,smV,smD,ql])
 rw[if_neg h] at hp
 simp only[go_sem,n1,n2]
 refine bJ ts n fin [105,102] aa rfl (by simp only[go_sem,n1,n2]) (B+55) a7 (fi hf1) (by simp only[go_sem,n1,n2,ho]) a7 (fun h=>?_) (fun h=>?_)
 ·rw[if_pos h] at hp
  have hlt:=Src.bZ h a8
  simp only[go_sem,n1,n2]
  refine ay aa rfl (uN hl (k:=k) (n:=n+1) a7 a7) (by simp only[go_sem,n1,n2];all_goals rfl) (B+55) a7 (fi hf1) (by simp only[go_sem,n1,n2]) (InF.go hin) (fun m h=>by rw[←hp,h];rfl) ?_
  intro l m he
  rw[he,PR.bind_ok] at hp
  have hm3:=Src.pv l m he
  have hm3':=Src.nv l m he
  simp only[go_sem,n1,n2,iV]
  refine ay aa rfl (ih.body m a7 a7) (by simp only[go_sem,n1,n2];all_goals rfl) (B+55) a7 (fi hf1) (by simp only[go_sem,n1,n2]) (InF.go hin) (fun m h=>by rw[←hp,h];rfl) ?_
  intro th m2 he
  rw[he,PR.bind_ok] at hp
  have hm4:=Src.rP k m th m2 he
  have hm4':=Src.pu k m th m2 he
  simp only[go_sem,n1,n2,jp]
  refine bJ ts m2 fin [101,108,115,101] aa rfl (by simp only[go_sem,n1,n2]) (B+55) a7 (fi hf1) (by simp only[go_sem,n1,n2]) a7 (fun h=>?_) (fun h=>?_)
  ·rw[if_pos h] at hp
   have hlt:=Src.bZ h a8
   simp only[go_sem,n1,n2]
   refine ay aa rfl (ih.body (m2+1) a7 a7) (by simp only[go_sem,n1,n2];all_goals rfl) (B+55) a7 (fi hf1) (by simp only[go_sem,n1,n2]) (InF.go hin) (fun m h=>by rw[←hp,h];rfl) ?_
   intro el m5 he
   rw[he,PR.bind_ok] at hp
   simp only[go_sem,n1,n2,jp]
   refine⟨_,ah.refl _,?_⟩
   simp only[go_sem,n1,n2]
   exact InF.ret (n:=m5) (a:=.mk 4 [] l th el) (InF.go hin) (by simp only[go_sem,n1,n2]) hp.symm (mP (.d _) (.d _) (.d _)) (by simp[pack,smV,smD,fk,aX])
  rw[if_neg h] at hp
  simp only[go_sem,n1,n2]
  refine⟨_,ah.refl _,?_⟩
  simp only[go_sem,n1,n2]
  exact InF.ret (n:=m2) (a:=.mk 4 [] l th []) (InF.go hin) (by simp only[go_sem,n1,n2]) hp.symm (mP (.d _) (.d _) .nil) (by simp[pack,smV,smD,fk,aX])
 rw[if_neg h] at hp
 simp only[go_sem,n1,n2]
 refine bJ ts n fin [119,104,105,108,101] aa rfl (by simp only[go_sem,n1,n2]) (B+55) a7 (fi hf1) (by simp only[go_sem,n1,n2,ho]) a7 (fun h=>?_) (fun h=>?_)
 ·rw[if_pos h] at hp
  have hlt:=Src.bZ h a8
  simp only[go_sem,n1,n2]
  refine ay aa rfl (uN hl (k:=k) (n:=n+1) a7 a7) (by simp only[go_sem,n1,n2];all_goals rfl) (B+55) a7 (fi hf1) (by simp only[go_sem,n1,n2]) (InF.go hin) (fun m h=>by rw[←hp,h];rfl) ?_
  intro l m he
  rw[he,PR.bind_ok] at hp
  have hm3:=Src.pv l m he
  have hm3':=Src.nv l m he
  simp only[go_sem,n1,n2,iV]
  refine ay aa rfl (ih.body m a7 a7) (by simp only[go_sem,n1,n2];all_goals rfl) (B+55) a7 (fi hf1) (by simp only[go_sem,n1,n2]) (InF.go hin) (fun m h=>by rw[←hp,h];rfl) ?_
  intro th m2 he
  rw[he,PR.bind_ok] at hp
  simp only[go_sem,n1,n2,jp]
  refine⟨_,ah.refl _,?_⟩
  simp only[go_sem,n1,n2]
  exact InF.ret (n:=m2) (a:=.mk 5 [] l th []) (InF.go hin) (by simp only[go_sem,n1,n2]) hp.symm (mP (.d _) (.d _) .nil) (by simp[pack,smV,smD,fk,aX])
 rw[if_neg h] at hp
 simp only[go_sem,n1,n2]
 refine ay aa rfl (Ga hl (k:=k) (n:=n) a7 a7) (by simp only[go_sem,n1,n2];all_goals rfl) (B+55) a7 (fi hf1) (by simp only[go_sem,n1,n2,ho]) (InF.go hin) (fun m h=>by rw[←hp,h]) ?_
 intro e m2 he
 rw[he] at hp
 obtain⟨ek,es,e1,e2,e3⟩:=e
 simp only[go_sem,n1,n2,smV,smD]
 refine⟨_,ah.refl _,?_⟩
 simp only[go_sem,n1,n2]
 exact InF.ret (n:=m2) (a:=.mk ek es e1 e2 e3) (InF.go hin) (by simp only[go_sem,n1,n2]) hp.symm (mP (.d _) (.d _) (.d _)) (by simp[pack,smV,smD])
theorem Jq (hl:ts.length≤100000) (ih:SmK ts fin k) (hnl:n≤ts.length) (hk:4*(ts.length-n)+6≤k+1):eb 163 [] ts n fin (gN ts (k+1) n) jp:=by
 intro B g ob hB hf ho
 refine al B [125] ae mixed Tryz.func163 rfl b9 [.tmp 2] rfl c9 c9 (by simp[Tryz.ntmps163]) (by simp;omega) hf fun b₀ β0 s0 w0=>?_
 have n1:=nlo hB
 have n2:=nhi hB
 have hin:InF B g ob g ob:=InF.refl
 have hf1:=hf
 obtain⟨p,hp⟩:∃p,gN ts (k+1) n=p:=⟨_,rfl⟩
 rw[hp]
 rw[gN] at hp
 simp only[go_sem,n1,n2]
 refine bu ts n fin aa rfl [[123]] (B+4) (by simp only[go_sem,n1,n2];all_goals rfl) (B+8) a7 (fi hf1) (by simp only[go_sem,n1,n2,ho]) (by simp;omega) a7 a7 (by simp only[go_sem,n1,n2,bD]) (InF.go hin) (fun m h=>by rw[←hp,h];rfl) ?_
 intro m hm
 rw[hm,PR.bind_ok] at hp
 have hm1:=Src.bU (ts:=ts) a8 () m hm
 have hm2:=Src.bR () m hm
 simp only[go_sem,n1,n2]
 refine ay aa rfl (ih.stmts m a7 a7) (by simp only[go_sem,n1,n2];all_goals rfl) (B+8) a7 (fi hf1) (by simp only[go_sem,n1,n2]) (InF.go hin) (fun m h=>by rw[←hp,h]) ?_
 intro l m2 he
 rw[he] at hp
 simp only[go_sem,n1,n2,jp]
 refine⟨_,ah.refl _,?_⟩
 simp only[go_sem,n1,n2]
 exact InF.ret (n:=m2) (a:=l) (rs:=[jp l]) (InF.go hin) (by simp only[go_sem,n1,n2]) hp.symm ⟨_,_,rfl,.one (.d _),rfl⟩ rfl
theorem Fv (hl:ts.length≤100000) (ih:∀j,j≤k→SmK ts fin j) (hnl:n≤ts.length) (hk:4*(ts.length-n)+5≤k+1):eb 80 [] ts n fin (ct ts (k+1) [] n) jp:=by
 intro B g ob hB hf ho
 refine al B [125] ae mixed Tryz.func80 rfl b9 [.tmp 2] rfl c9 c9 (by simp[Tryz.ntmps80]) (by simp;omega) hf fun b₀ β0 s0 w0=>?_
 have n1:=nlo hB
 have n2:=nhi hB
 obtain⟨p,hp⟩:∃p,ct ts (k+1) [] n=p:=⟨_,rfl⟩
 rw[hp]
 simp only[go_sem,n1,n2]
 refine ak (fun z st=>∃(j n':Nat) (acc:List Stm),z+n'=ts.length∧acc.length≤n'∧4*(ts.length-n')+5≤j∧j≤k+1∧st.f 0=.one (.ptr 125 (g 125) 0)∧((acc=[]∧st.f 3=.one (.d .nsl))∨(st.f 3=.one (.osl (B+11) (st.gen (B+11)) 5 0 acc.length)∧st.obj (B+11)=some (smC acc)))∧st.obj 125=some (rdC ts n' fin)∧InF B g ob st.gen st.obj∧(∀i,B+13≤i→st.obj i=none)∧ct ts j acc n'=p) (ts.length-n) ?_ ?_
 ·refine⟨k+1,n,[],a7,a8,a7,l4 _,?_⟩
  simp only[go_sem,n1,n2]
  exact⟨.inl trivial,ho,InF.refl,fun i hi=>hf i a7,hp⟩
 clear hp
 rintro z f g1 ob1 ⟨j,n',acc,hz,hacc,hj,hjk,q0,q3,o125,hin,hf1,hp⟩
 simp only at q0 q3 o125 hin hf1
 obtain⟨j,rfl⟩:∃i,j=i+1:=⟨j-1,a7⟩
 rw[ct] at hp
 have hg:=hin.rd
 simp only[go_sem,q0]
 refine bJ ts n' fin [125] aa rfl (by simp only[go_sem,n1,n2,hg,q0]) (B+13) a7 (fi hf1) (by simp only[go_sem,n1,n2,o125]) a7 (fun h=>?_) (fun h=>?_)
 ·rw[if_pos h] at hp
  rcases q3 with⟨rfl,q3⟩|⟨q3,o3⟩
  ·simp only[go_sem,n1,n2,q0,q3]
   refine⟨_,ah.refl _,?_⟩
   simp only[go_sem,n1,n2,q3]
   exact InF.ret (n:=n'+1) (a:=[]) (rs:=[.one (.d (.sl []))]) (InF.go hin) (by simp only[go_sem,n1,n2]) hp.symm ⟨_,_,rfl,.one .nil,rfl⟩ rfl
  ·simp only[go_sem,n1,n2,q0,q3]
   refine⟨_,ah.refl _,?_⟩
   simp only[go_sem,n1,n2,q3]
   exact InF.ret (n:=n'+1) (a:=acc) (InF.go hin) (by simp only[go_sem,n1,n2]) hp.symm (FZ a7 (by simp only[go_sem,n1,n2]) (by simp only[go_sem,n1,n2,o3]) rfl) rfl
 rw[if_neg h] at hp
 have hst:=(ih j a7).stmt n' a7 a7
 rcases q3 with⟨rfl,q3⟩|⟨q3,o3⟩
 ·simp only[go_sem,n1,n2,q0,q3]
  refine ay aa rfl hst (by simp only[go_sem,n1,n2,hg,q0];all_goals rfl) (B+13) a7 (fi hf1) (by simp only[go_sem,n1,n2,o125]) (InF.go hin) (fun m h=>by rw[←hp,h];rfl) ?_
  intro e m he
  rw[he,PR.bind_ok] at hp
  have hm1:=Src.DR j n' e m he
  have hm2:=Src.AP j n' e m he
  simp only[go_sem,n1,n2,smV,jF,j6,q0,q3,aD]
  refine⟨⟨c8,a7⟩,?_⟩
  refine ai (ts.length-m) a7 ⟨j,m,[]++[e],a7,by simp;omega,a7,a7,?_⟩
  simp only[go_sem,n1,n2,q0,q3]
  refine⟨.inr ?_,(InF.go hin),(fi hf1),hp⟩
  rw[l6 (by simp[jF])]
  simp[smC]
 ·have hcl:=FW acc
  simp only[go_sem,n1,n2,q0,q3]
  refine ay aa rfl hst (by simp only[go_sem,n1,n2,hg,q0];all_goals rfl) (B+13) a7 (fi hf1) (by simp only[go_sem,n1,n2,o125]) (InF.go hin) (fun m h=>by rw[←hp,h];rfl) ?_
  intro e m he
  rw[he,PR.bind_ok] at hp
  have hm1:=Src.DR j n' e m he
  have hm2:=Src.AP j n' e m he
  simp only[go_sem,n1,n2,smV,jF,j6,q0,q3,o3,hcl,aD]
  refine⟨a7,⟨c8,a7⟩,?_⟩
  refine ai (ts.length-m) a7 ⟨j,m,acc++[e],a7,by rw[j5];simp;omega,a7,a7,?_⟩
  simp only[go_sem,n1,n2,q0,q3,j5]
  refine⟨.inr ?_,(InF.go hin),(fi hf1),hp⟩
  rw[l6 a7,FY,FX,l6 (by simp[jF])]
theorem QL (fin:Nat) (hl:ts.length≤100000) (k:Nat):SmK ts fin k:=by
 induction k using Nat.strongRecOn with
 |ind k ih=>
   cases k with
   |zero=>exact⟨fun _ _ h=>absurd h a7,fun _ _ h=>absurd h a7,fun _ _ h=>absurd h a7⟩
   |succ k=>exact⟨fun n h1 h2=>Jp hl (ih k a7) h1 h2,fun n h1 h2=>Jq hl (ih k a7) h1 h2,fun n h1 h2=>Fv hl (fun j hj=>ih j a7) h1 h2⟩
end
end
end Go.Proofs.YtlglgadejgdpcaaGreatDoor
namespace Go.Am
section
attribute [local congr] Go.Am.ite_cc
theorem lM {P:Program}{rd:Option Nat}{b₀:Bs}{Φ:St→Loc→List Deferred→World→Prop}{B0:Nat}{Ψ:fF}{B:(Exit→St→Prop)→St→Prop}{b:Box B}{Q:Exit→St→Prop}{q:Box Q}{s:St} (s₁:St) (hv:ah s s₁) (I:Nat→St→Prop) (n:Nat) (h0:I n s₁)
  (hr:∀n f g ob,I n ⟨f,g,ob⟩→B (jz (bx fun s'=>∃n' s₁,n'<n∧(spF P rd b₀ Φ B0 Ψ).vs s' s₁∧I n' s₁) q) ⟨f,g,ob⟩):qD (spF P rd b₀ Φ B0 Ψ) b q s:=
 ⟨I,⟨n,s₁,hv,h0⟩,fun n s hs=>hr n s.f s.gen s.obj hs⟩
end
end Go.Am
namespace Go.Proofs.YtlglgadejgdpcaaGreatDoor
section
attribute [local congr] Go.Am.ite_cc
open Go Go.Am Go.Asm
open Go.Src (PR cV az takeN br Ex Stm dD ct cP lm)
def fnD (f:Src.Fn):List D:=[.str f.name,.sl (f.params.map fun s=>[.str s]),.sl (f.locals.map fun s=>[.str s]),.bool f.word,.sl (f.body.map smD)]
theorem Fw (f:Src.Fn):(fnD f).length=5:=rfl
def fnV (f:Src.Fn):AV:=.agg ((fnD f).map .d)
theorem zc {P:Nat→Prop}{s:St}{id g n:Nat}{l:List Str} (hid:P id) (hg:s.gen id=g) (ho:s.obj id=some (bD l)) (hn:l.length=n):eW P s (.osl id g 1 0 n) (.sl (l.map fun s=>[.str s])):=
 dX hid hg l (fun s=>[.str s]) ho (by unfold bD;clear ho hn;induction l with|nil=>rfl|cons a l ih=>simpa using ih) (fun _ _=>rfl) hn
theorem zd (l:List Str):((l.map fun s=>([.str s]:List D)).flatten).map C.d=bD l:=by
 unfold bD
 induction l with
 |nil=>rfl
 |cons a l ih=>simpa using ih
theorem Ib {ts:List Src.Tok}{fin k n:Nat} (hl:ts.length≤100000) (hnl:n≤ts.length) (hk:4*(ts.length-n)+5≤k):eb 51 [] ts n fin (lm ts k n) fnV:=by
 intro B g ob hB hf ho
 refine al B [125] ae mixed Tryz.func51 rfl b9 [.cell 2 115] rfl c9 c9 (by simp[Tryz.ntmps51]) (by simp;omega) hf fun b₀ β0 s0 w0=>?_
 have n1:=nlo hB
 have n2:=nhi hB
 have hin:InF B g ob g ob:=InF.refl
 have hf1:=hf
 obtain⟨p,hp⟩:∃p,lm ts k n=p:=⟨_,rfl⟩
 rw[hp]
 rw[lm] at hp
 simp only[go_sem,n1,n2]
 refine bu ts n fin aa rfl [[102,117,110,99]] (B+5) (by simp only[go_sem,n1,n2];all_goals rfl) (B+44) a7 (fi hf1) (by simp only[go_sem,n1,n2,ho]) (by simp;omega) a7 a7 (by simp only[go_sem,n1,n2,bD]) (InF.go hin) (fun m h=>by rw[←hp,h];rfl) ?_
 intro m hm
 rw[hm,PR.bind_ok] at hp
 have hm1:=Src.bU (ts:=ts) a8 () m hm
 have hm2:=Src.bR () m hm
 simp only[go_sem,n1,n2]
 refine ay aa rfl (lN ts m fin 1 a7 c8) (by simp only[go_sem,n1,n2];all_goals rfl) (B+44) a7 (fi hf1) (by simp only[go_sem,n1,n2]) (InF.go hin) (fun m h=>by rw[←hp,h];rfl) ?_
 intro t m3 ht
 rw[ht,PR.bind_ok] at hp
 have hm3:=Src.iC t m3 ht
 have hm4:=Src.eT t m3 ht
 unfold mF kN
 simp only[go_sem,n1,n2]
 refine bu ts m3 fin aa rfl [[40]] (B+12) (by simp only[go_sem,n1,n2];all_goals rfl) (B+44) a7 (fi hf1) (by simp only[go_sem,n1,n2]) (by simp;omega) a7 a7 (by simp only[go_sem,n1,n2,bD]) (InF.go hin) (fun m h=>by rw[←hp,show Src.jH=[40] from rfl,h];rfl) ?_
 intro m5 hm
 rw[show Src.jH=[40] from rfl,hm,PR.bind_ok] at hp
 have hm5:=Src.bU (ts:=ts) a8 () m5 hm
 have hm6:=Src.bR () m5 hm
 simp only[go_sem,n1,n2]
 refine tu ts m5 fin aa rfl (by simp only[go_sem,n1,n2]) (by simp only[go_sem,n1,n2]) ?_
 by_cases h1:cV ts m5=1
 case' pos=>
  rw[if_pos h1] at hp
  have h1i:(cV ts m5:Int)=1:=a7
  simp only[go_sem,h1i,n1,n2]
  refine ay aa rfl (uM hl (k:=k) (n:=m5) a7 a7) (by simp only[go_sem,n1,n2];all_goals rfl) (B+44) a7 (fi hf1) (by simp only[go_sem,n1,n2]) (InF.go hin) (fun m h=>by rw[←hp,h];rfl) ?_
  intro ps m7 he
  rw[he,PR.bind_ok] at hp
  have hm7:m7≤ts.length:=by have:=Src.px ps m7 he;omega
  have hm7':m5≤m7:=by have:=Src.rO ps m7 he;omega
  obtain⟨cx,hfx,hcx⟩:∃cx:C,(∀s:St,eW (B≤·) s cx (.sl (ps.map fun s=>[.str s])))∧cx=.d (.sl (ps.map fun s=>[D.str s])):=⟨_,fun s=>.d _,rfl⟩
  simp only[go_sem,n1,n2,jo]
  clear he h1i h1
 case' neg=>
  have h1i:¬(cV ts m5:Int)=1:=a7
  simp only[go_sem,h1i,n1,n2]
  obtain⟨ps,hps⟩:∃ps:List Str,ps=[]:=⟨_,rfl⟩
  obtain⟨m7,hm7e⟩:∃m7,m7=m5:=⟨_,rfl⟩
  have e7:(PR.ok ([]:List Str) m5)=PR.ok ps m7:=by rw[hps,hm7e]
  rw[if_neg h1,e7,PR.bind_ok] at hp
  obtain⟨cx,hfx,hcx⟩:∃cx:C,(∀s:St,eW (B≤·) s cx (.sl (ps.map fun s=>[.str s])))∧cx=.d .nsl:=⟨_,fun s=>by rw[hps];exact .nil,rfl⟩
  clear h1i h1 e7
  have hm7:m7≤ts.length:=a7
  have hm7':m5≤m7:=a7
  rw[←hm7e]
  clear hm7e hps
 all_goals
  refine bu ts m7 fin aa rfl [[41]] (B+21) (by simp only[go_sem,n1,n2];all_goals rfl) (B+44) a7 (fi hf1) (by simp only[go_sem,n1,n2]) (by simp;omega) a7 a7 (by simp only[go_sem,n1,n2,bD]) (InF.go hin) (fun m h=>by rw[←hp,show Src.ig=[41] from rfl,h];rfl) ?_
  intro m8 hm
  rw[show Src.ig=[41] from rfl,hm,PR.bind_ok] at hp
  have hm8:=Src.bU (ts:=ts) a8 () m8 hm
  have hm8':=Src.bR () m8 hm
  simp only[go_sem,n1,n2]
  by_cases h:az ts m8=[119,111,114,100]
  case' pos=>
   have hlt:=Src.bZ h a8
   refine bJ ts m8 fin [119,111,114,100] aa rfl (by simp only[go_sem,n1,n2]) (B+44) a7 (fi hf1) (by simp only[go_sem,n1,n2]) a7 (fun _=>?_) (fun h'=>absurd h h')
   obtain⟨w,hw⟩:∃w,w=true:=⟨_,rfl⟩
   obtain⟨m9,hm9⟩:∃m9,m9=m8+1:=⟨_,rfl⟩
   rw[if_pos h,D3 h,←hw,←hm9] at hp
   rw[←hm9]
   simp only[go_sem,n1,n2]
  case' neg=>
   refine bJ ts m8 fin [119,111,114,100] aa rfl (by simp only[go_sem,n1,n2]) (B+44) a7 (fi hf1) (by simp only[go_sem,n1,n2]) a7 (fun h'=>absurd h' h) (fun _=>?_)
   obtain⟨w,hw⟩:∃w,w=false:=⟨_,rfl⟩
   obtain⟨m9,hm9⟩:∃m9,m9=m8:=⟨_,rfl⟩
   rw[if_neg h,y7 h,←hw,←hm9] at hp
   rw[←hm9]
   simp only[go_sem,n1,n2]
  all_goals
   clear h
   have hm9a:m9≤ts.length:=a7
   have hm9b:m8≤m9:=a7
   refine bu ts m9 fin aa rfl [[123]] (B+27) (by simp only[go_sem,n1,n2];all_goals rfl) (B+44) a7 (fi hf1) (by simp only[go_sem,n1,n2]) (by simp;omega) a7 a7 (by simp only[go_sem,n1,n2,bD]) (InF.go hin) (fun m h=>by rw[←hp,h];rfl) ?_
   intro m10 hm
   rw[hm,PR.bind_ok] at hp
   have hm10:=Src.bU (ts:=ts) a8 () m10 hm
   have hm10':=Src.bR () m10 hm
   simp only[go_sem,n1,n2]
   refine lM _ (cl (t:=3) (o:=B+3) (b:=B+35) (j:=2) (sz:=1) (off:=0) (cells:=[.d (.str t.text),cx,.d .nsl,.d (.bool w),.d .nsl]) (by simp only[go_sem,n1,n2]) (by simp only[go_sem,n1,n2,hcx,hw]) rfl a7)
    (fun z st=>∃(j n':Nat) (acc:List Str),z+n'=ts.length∧acc.length≤n'∧ts.length-n'+1≤j∧m10≤n'∧st.f 0=.one (.ptr 125 (g 125) 0)∧st.f 2=.one (.ptr (B+2) (st.gen (B+2)) 0)∧st.f 3=.one (.ptr (B+3) (st.gen (B+3)) 0)∧(∃a b c d e,st.obj (B+2)=some [a,b,c,d,e])∧
      st.obj (B+3)=some [.d (.str t.text),cx,.osl (B+35) (st.gen (B+35)) 1 0 acc.length,.d (.bool w),.d .nsl]∧st.obj (B+35)=some (bD acc)∧st.obj 125=some (rdC ts n' fin)∧InF B g ob st.gen st.obj∧(∀i,B+44≤i→st.obj i=none)∧
      ((cP ts j acc n').bind fun ls m=>(ct ts k [] m).bind fun b m=>Src.PR.ok { name:=t.text,params:=ps,locals:=ls,word:=w,body:=b } m)=p) (ts.length-m10) ?_ ?_
   ·simp only[St.claimAt]
    refine⟨k,m10,[],a7,a8,a7,l4 _,?_⟩
    simp only[go_sem,n1,n2]
    exact⟨⟨_,_,_,_,_,rfl,rfl,rfl,rfl,rfl⟩,rfl,(InF.go hin),(fi hf1),hp⟩
   clear hf1 hin hp
   rintro z f g1 ob1 ⟨j,n',acc,hz,hacc,hj,hmn,q0,q2,q3,⟨a,b,c,d,e,o2⟩,o3,o35,o125,hin,hf1,hp⟩
   simp only at q0 q2 q3 o2 o3 o35 o125 hin hf1
   obtain⟨j,rfl⟩:∃i,j=i+1:=⟨j-1,a7⟩
   rw[cP] at hp
   have hg:=hin.rd
   simp only[go_sem,q0]
   refine bJ ts n' fin [118,97,114] aa rfl (by simp only[go_sem,n1,n2,hg,q0]) (B+44) a7 (fi hf1) (by simp only[go_sem,n1,n2,o125]) a7 (fun h=>?_) (fun h=>?_)
   ·rw[if_pos h] at hp
    have hlt:=Src.bZ h a8
    have hcl:=pd acc
    simp only[go_sem,n1,n2,q0]
    obtain⟨ls,m',hgl,hlook⟩:=Ie (dD ts j (n'+1)) (G:=fun l=>l.length≤100000) [] a8 (fun l m h=>by have:=Src.yu h;have:=Src.px l m h;omega)
    refine jc (∃a m,dD ts j (n'+1)=.ok a m) ae mixed aa [B+35,125] [([3],[1],[],false),([31],[1],[],false),([0],[],[],false),([33],[],[1],false),([32,34],[],[0],false),([3],[0,1],[],false),([36,35],[],[],true)] 2 rfl j0 rfl (by simp;omega) ?_
    simp only[go_sem]
    (apply bq;(case hf=>rfl);(case hg=>first|exact w9|exact⟨_,rfl,by decide,rfl⟩);(case h1=>intro fa ga oa K' hK;simp only[go_sem,n1,n2,q3,o3] at hK ⊢;exact hK))
    (apply bq;(case hf=>rfl);(case hg=>first|exact w9|exact⟨_,rfl,by decide,rfl⟩);(case h1=>intro fa ga oa K' hK;simp only[go_sem,n1,n2,q3,o3] at hK ⊢;exact hK))
    (apply bq;(case hf=>rfl);(case hg=>first|exact w9|exact⟨_,rfl,by decide,rfl⟩);(case h1=>intro fa ga oa K' hK;simp only[go_sem,q0] at hK ⊢;exact hK))
    refine jd (v:=jo ls) (y:=some (rdC ts m' fin)) w9 a8 (fun fa ga oa K' hK=>?_) ?_
    ·simp only[go_sem,n1,n2] at hK ⊢
     refine ay (k:=bx K') aa rfl (uM hl (k:=j) (n:=n'+1) a7 a7) (by simp only[go_sem,n1,n2,hg];all_goals rfl) (B+44) a7 (fi hf1) (by simp only[go_sem,n1,n2]) (InF.go hin) (fun m h=>by rw[←hp,h];rfl) ?_
     intro a2 q2 h2
     have e:=hlook ⟨_,_,h2⟩
     rw[h2] at e
     cases e
     simp only[go_sem,n1,n2]
     exact hK ⟨_,_,h2⟩
    refine iy (a:=0) (v:=.one (.osl (B+35) (nxC (apC 9 (g1 (B+35)) 0) (g1 (B+35))) 1 0 (acc.length+ls.length))) (x:=nxC (apC 9 (g1 (B+35)) 0) (g1 (B+35))) (y:=some (bD (acc++ls))) rfl w9 (fun fa ga oa K' hK=>?_) ?_
    ·simp only[go_sem,n1,n2,jo,o35,hcl,aD,j6] at hK ⊢
     have e1:List.take acc.length (bD acc)++List.map C.d (List.map (fun s=>([D.str s]:List D)) ls).flatten=bD (acc++ls):=by
      rw[l6 a7,zd]
      simp[bD]
     rw[e1]
     exact⟨l4 _,fun e he=>by obtain⟨x,_,rfl⟩:=I2.1 he;rfl,⟨c8,a7⟩,hK⟩
    (apply bq;(case hf=>rfl);(case hg=>first|exact w9|exact⟨_,rfl,by decide,rfl⟩);(case h1=>intro fa ga oa K' hK;simp only[go_sem,n1,n2,q3,o3] at hK ⊢;exact hK))
    refine je rfl w9 ?_
    intro K' hK'
    simp only[go_sem,n1,n2,o3]
    refine hK' _ ?_
    clear hK' K'
    intro hz'
    have e:=hlook hz'
    rw[e,PR.bind_ok] at hp
    have hm1:=Src.px ls m' e
    have hm2:=Src.rO ls m' e
    have hm3:=Src.yu e
    simp only[go_sem,n1,n2,q0]
    refine bu ts m' fin aa rfl [[59]] (B+38) (by simp only[go_sem,n1,n2,hg];all_goals rfl) (B+44) a7 (fi hf1) (by simp only[go_sem,n1,n2]) (by simp;omega) a7 a7 (by simp only[go_sem,n1,n2,bD]) (InF.go hin) (fun m h=>by rw[←hp,show Src.jI=[59] from rfl,h];rfl) ?_
    intro m4 hm
    rw[show Src.jI=[59] from rfl,hm,PR.bind_ok] at hp
    have hm4:=Src.bU (ts:=ts) a8 () m4 hm
    have hm5:=Src.bR () m4 hm
    simp only[go_sem,n1,n2]
    refine ai (ts.length-m4) a7 ⟨j,m4,acc++ls,a7,by rw[j5];omega,a7,a7,?_⟩
    simp only[go_sem,n1,n2,q0,q2,q3,j5]
    exact⟨⟨_,_,_,_,_,o2⟩,(InF.go hin),(fi hf1),hp⟩
   ·rw[if_neg h,PR.bind_ok] at hp
    simp only[go_sem,n1,n2,q0]
    refine ay aa rfl ((QL fin hl k).stmts n' a7 a7) (by simp only[go_sem,n1,n2,hg,q0];all_goals rfl) (B+44) a7 (fi hf1) (by simp only[go_sem,n1,n2,o125]) (InF.go hin) (fun m h=>by rw[←hp,h];rfl) ?_
    intro bd m4 he
    rw[he,PR.bind_ok] at hp
    simp only[go_sem,n1,n2,q2,q3,o2,o3,jp]
    refine⟨_,ah.refl _,?_⟩
    simp only[go_sem,n1,n2,q2]
    refine InF.ret (n:=m4) (a:=⟨t.text,ps,acc,w,bd⟩) (rs:=[.agg [.d (.str t.text),.d (.sl (ps.map fun s=>[.str s])),.d (.sl (acc.map fun s=>[.str s])),.d (.bool w),.d (.sl (bd.map smD))]]) (InF.go hin) (by simp only[go_sem,n1,n2]) hp.symm ?_ rfl
    exact⟨_,_,rfl,.agg (xs:=[.str t.text,.sl (ps.map fun s=>[.str s]),.sl (acc.map fun s=>[.str s]),.bool w,.sl (bd.map smD)]) rfl (fun i e he=>by
     match i,he with
     |0,he=>cases he;exact⟨_,rfl,.d _⟩
     |1,he=>cases he;exact⟨_,rfl,hfx _⟩
     |2,he=>cases he;exact⟨_,rfl,zc a7 (by simp only[go_sem,n1,n2]) (by simp only[go_sem,n1,n2,o35]) rfl⟩
     |3,he=>cases he;exact⟨_,rfl,.d _⟩
     | 4,he=>cases he;exact⟨_,rfl,.d _⟩),rfl⟩
end
section
attribute [local congr] Go.Am.ite_cc
open Go Go.Am Go.Asm
open Go.Src (PR cV az takeN br Ex Stm dD ct cP lm kY kZ lf)
section
def arD (a:Str×Int):List D:=[.str a.1,.int .i64 a.2]
def vX (l:List (Str×Int)):List C:=l.flatMap fun a=>(arD a).map .d
theorem CB (l:List (Str×Int)):(vX l).length=l.length*2:=by
 induction l with
 |nil=>rfl
 |cons a l ih=>simp only[vX,B4,j5,j6,arD,j7,j8] at ih ⊢;omega
def fnC (l:List Src.Fn):List C:=l.flatMap fun a=>(fnD a).map .d
theorem Fx (l:List Src.Fn):(fnC l).length=l.length*5:=by
 induction l with
 |nil=>rfl
 |cons a l ih=>simp only[fnC,B4,j5,j6,Fw,j7] at ih ⊢;omega
theorem ze (f:Src.Fn):fnC [f]=(fnD f).map .d:=by simp[fnC]
theorem Fy (l m:List Src.Fn):fnC (l++m)=fnC l++fnC m:=by simp[fnC]
def iO (p:Src.Prog):List D:=[.sl (p.vars.map fun s=>[.str s]),.sl (p.arrays.map arD),.sl (p.funcs.map fnD)]
def ep (p:Src.Prog):AV:=.agg ((iO p).map .d)
variable {P:Nat→Prop}{id g n:Nat}
theorem Jr{s:St}{l:List (Str×Int)} (hid:P id) (hg:s.gen id=g) (ho:s.obj id=some (vX l)) (hn:l.length=n):eW P s (.osl id g 2 0 n) (.sl (l.map arD)):=
 dX hid hg l arD ho rfl (fun _ _=>rfl) hn
theorem NZ{s:St}{l:List Src.Fn} (hid:P id) (hg:s.gen id=g) (ho:s.obj id=some (fnC l)) (hn:l.length=n):eW P s (.osl id g 5 0 n) (.sl (l.map fnD)):=
 dX hid hg l fnD ho rfl (fun _ _=>rfl) hn
instance:Inhabited Src.Fn:=⟨⟨[],[],[],false,[]⟩⟩
theorem Js {ts:List Src.Tok}{fin k:Nat} (hl:ts.length≤100000) (hnum:∀t∈ts,t.num≤4294967295) (hk:4*ts.length+7≤k):eb 28 [] ts 0 fin (lf ts k 0) ep:=by
 intro B g ob hB hf ho
 refine al B [125] ae mixed Tryz.func28 rfl b9 [.cell 2 39] rfl c9 c9 (by simp[Tryz.ntmps28]) (by simp;omega) hf fun b₀ β0 s0 w0=>?_
 have n1:=nlo hB
 have n2:=nhi hB
 have hin:InF B g ob g ob:=InF.refl
 have hf1:=hf
 obtain⟨p,hp⟩:∃p,lf ts k 0=p:=⟨_,rfl⟩
 rw[hp]
 rw[lf] at hp
 simp only[go_sem,n1,n2]
 refine lM _ (((cl (t:=3) (o:=B+3) (b:=B+12) (j:=0) (sz:=1) (off:=0) (cells:=[.d .nsl,.d .nsl,.d .nsl]) (by simp only[go_sem,n1,n2]) (by simp only[go_sem,n1,n2]) rfl a7).trans
   (cl (t:=3) (o:=B+3) (b:=B+32) (j:=1) (sz:=2) (off:=0) (cells:=[.osl (B+12) (g (B+12)+1) 1 0 0,.d .nsl,.d .nsl]) (by simp only[St.claimAt];simp only[go_sem,n1,n2]) (by simp only[St.claimAt];simp only[go_sem,n1,n2]) rfl a7)).trans
   (cl (t:=3) (o:=B+3) (b:=B+45) (j:=2) (sz:=5) (off:=0) (cells:=[.osl (B+12) (g (B+12)+1) 1 0 0,.osl (B+32) (g (B+32)+1) 2 0 0,.d .nsl]) (by simp only[St.claimAt];simp only[go_sem,n1,n2]) (by simp only[St.claimAt];simp only[go_sem,n1,n2]) rfl a7))
  (fun z st=>∃(j n':Nat) (vs:List Str) (ars:List (Str×Int)),z+n'=ts.length∧vs.length≤n'∧ars.length≤n'∧ts.length-n'+1≤j∧st.f 0=.one (.ptr 125 (g 125) 0)∧st.f 2=.one (.ptr (B+2) (st.gen (B+2)) 0)∧st.f 3=.one (.ptr (B+3) (st.gen (B+3)) 0)∧(∃a b c,st.obj (B+2)=some [a,b,c])∧
    st.obj (B+3)=some [.osl (B+12) (st.gen (B+12)) 1 0 vs.length,.osl (B+32) (st.gen (B+32)) 2 0 ars.length,.osl (B+45) (st.gen (B+45)) 5 0 0]∧st.obj (B+12)=some (bD vs)∧st.obj (B+32)=some (vX ars)∧st.obj (B+45)=some []∧st.obj 125=some (rdC ts n' fin)∧InF B g ob st.gen st.obj∧(∀i,B+65≤i→st.obj i=none)∧
    ((kY ts j vs ars n').bind fun h n=>(lm ts k n).bind fun f n=>(kZ ts k [f] n).bind fun fs n=>PR.ok (Src.Prog.mk h.1 h.2 fs) n)=p) ts.length ?_ ?_
 ·simp only[St.claimAt]
  refine⟨k,0,[],[],a7,a8,a8,a7,?_⟩
  simp only[go_sem,n1,n2]
  exact⟨⟨_,_,_,rfl,rfl,rfl⟩,rfl,rfl,ho,(InF.go hin),(fi hf1),hp⟩
 clear hf1 hin hp
 rintro z f g1 ob1 ⟨j,n',vs,ars,hz,hvs,hars,hj,q0,q2,q3,⟨a,b,c,o2⟩,o3,o12,o32,o45,o125,hin,hf1,hp⟩
 simp only at q0 q2 q3 o2 o3 o12 o32 o45 o125 hin hf1
 obtain⟨j,rfl⟩:∃i,j=i+1:=⟨j-1,a7⟩
 rw[kY] at hp
 have hg:=hin.rd
 have hcv:=pd vs
 have hca:=CB ars
 simp only[go_sem,q0]
 refine bJ ts n' fin [118,97,114] aa rfl (by simp only[go_sem,n1,n2,hg,q0]) (B+65) a7 (fi hf1) (by simp only[go_sem,n1,n2,o125]) a7 (fun h=>?_) (fun h=>?_)
 ·rw[if_pos h] at hp
  have hlt:=Src.bZ h a8
  simp only[go_sem,n1,n2,q0]
  obtain⟨ls,m',hgl,hlook⟩:=Ie (dD ts j (n'+1)) (G:=fun l=>l.length≤100000) [] a8 (fun l m h=>by have:=Src.yu h;have:=Src.px l m h;omega)
  refine jc (∃a m,dD ts j (n'+1)=.ok a m) ae mixed aa [B+12,125] [([3],[1],[],false),([8],[1],[],false),([0],[],[],false),([10],[],[1],false),([9,11],[],[0],false),([3],[0,1],[],false),([13,12],[],[],true)] 2 rfl j0 rfl (by simp;omega) ?_
  simp only[go_sem]
  (apply bq;(case hf=>rfl);(case hg=>first|exact w9|exact⟨_,rfl,by decide,rfl⟩);(case h1=>intro fa ga oa K' hK;simp only[go_sem,n1,n2,q3,o3] at hK ⊢;exact hK))
  (apply bq;(case hf=>rfl);(case hg=>first|exact w9|exact⟨_,rfl,by decide,rfl⟩);(case h1=>intro fa ga oa K' hK;simp only[go_sem,n1,n2,q3,o3] at hK ⊢;exact hK))
  (apply bq;(case hf=>rfl);(case hg=>first|exact w9|exact⟨_,rfl,by decide,rfl⟩);(case h1=>intro fa ga oa K' hK;simp only[go_sem,q0] at hK ⊢;exact hK))
  refine jd (v:=jo ls) (y:=some (rdC ts m' fin)) w9 a8 (fun fa ga oa K' hK=>?_) ?_
  ·simp only[go_sem,n1,n2] at hK ⊢
   refine ay (k:=bx K') aa rfl (uM hl (k:=j) (n:=n'+1) a7 a7) (by simp only[go_sem,n1,n2,hg];all_goals rfl) (B+65) a7 (fi hf1) (by simp only[go_sem,n1,n2]) (InF.go hin) (fun m h=>by rw[←hp,h];rfl) ?_
   intro a2 q2 h2
   have e:=hlook ⟨_,_,h2⟩
   rw[h2] at e
   cases e
   simp only[go_sem,n1,n2]
   exact hK ⟨_,_,h2⟩
  refine iy (a:=0) (v:=.one (.osl (B+12) (nxC (apC 9 (g1 (B+12)) 0) (g1 (B+12))) 1 0 (vs.length+ls.length))) (x:=nxC (apC 9 (g1 (B+12)) 0) (g1 (B+12))) (y:=some (bD (vs++ls))) rfl w9 (fun fa ga oa K' hK=>?_) ?_
  ·simp only[go_sem,n1,n2,jo,o12,hcv,aD,j6] at hK ⊢
   have e1:List.take vs.length (bD vs)++List.map C.d (List.map (fun s=>([D.str s]:List D)) ls).flatten=bD (vs++ls):=by
    rw[l6 a7,zd]
    simp[bD]
   rw[e1]
   exact⟨l4 _,fun e he=>by obtain⟨x,_,rfl⟩:=I2.1 he;rfl,⟨c8,a7⟩,hK⟩
  (apply bq;(case hf=>rfl);(case hg=>first|exact w9|exact⟨_,rfl,by decide,rfl⟩);(case h1=>intro fa ga oa K' hK;simp only[go_sem,n1,n2,q3,o3] at hK ⊢;exact hK))
  refine je rfl w9 ?_
  intro K' hK'
  simp only[go_sem,n1,n2,o3]
  refine hK' _ ?_
  clear hK' K'
  intro hz'
  have e:=hlook hz'
  rw[e,PR.bind_ok] at hp
  have hm1:=Src.px ls m' e
  have hm2:=Src.rO ls m' e
  have hm3:=Src.yu e
  simp only[go_sem,n1,n2,q0]
  refine bu ts m' fin aa rfl [[59]] (B+38) (by simp only[go_sem,n1,n2,hg];all_goals rfl) (B+65) a7 (fi hf1) (by simp only[go_sem,n1,n2]) (by simp;omega) a7 a7 (by simp only[go_sem,n1,n2,bD]) (InF.go hin) (fun m h=>by rw[←hp,show Src.jI=[59] from rfl,h];rfl) ?_
  intro m4 hm
  rw[show Src.jI=[59] from rfl,hm,PR.bind_ok] at hp
  have hm4:=Src.bU (ts:=ts) a8 () m4 hm
  have hm5:=Src.bR () m4 hm
  simp only[go_sem,n1,n2]
  refine ai (ts.length-m4) a7 ⟨j,m4,vs++ls,ars,a7,by rw[j5];omega,a7,a7,?_⟩
  simp only[go_sem,n1,n2,q0,q2,q3,j5]
  exact⟨⟨_,_,_,o2⟩,o32,o45,(InF.go hin),(fi hf1),hp⟩
 rw[if_neg h] at hp
 simp only[go_sem,n1,n2,q0]
 refine bJ ts n' fin [97,114,114,97,121] aa rfl (by simp only[go_sem,n1,n2,hg,q0]) (B+65) a7 (fi hf1) (by simp only[go_sem,n1,n2,o125]) a7 (fun h=>?_) (fun h=>?_)
 ·rw[if_pos h] at hp
  have hlt:=Src.bZ h a8
  simp only[go_sem,n1,n2,q0]
  refine ay aa rfl (lN ts (n'+1) fin 1 a7 c8) (by simp only[go_sem,n1,n2,hg,q0];all_goals rfl) (B+65) a7 (fi hf1) (by simp only[go_sem,n1,n2]) (InF.go hin) (fun m h=>by rw[←hp,h];rfl) ?_
  intro t m3 ht
  rw[ht,PR.bind_ok] at hp
  have hm3:=Src.iC t m3 ht
  have hm4:=Src.eT t m3 ht
  unfold mF kN
  simp only[go_sem,n1,n2,q0]
  refine bu ts m3 fin aa rfl [[91]] (B+20) (by simp only[go_sem,n1,n2,hg,q0];all_goals rfl) (B+65) a7 (fi hf1) (by simp only[go_sem,n1,n2]) (by simp;omega) a7 a7 (by simp only[go_sem,n1,n2,bD]) (InF.go hin) (fun m h=>by rw[←hp,h];rfl) ?_
  intro m5 hm
  rw[hm,PR.bind_ok] at hp
  have hm5:=Src.bU (ts:=ts) a8 () m5 hm
  have hm6:=Src.bR () m5 hm
  simp only[go_sem,n1,n2,q0]
  refine ay aa rfl (lN ts m5 fin 2 a7 c8) (by simp only[go_sem,n1,n2,hg,q0];all_goals rfl) (B+65) a7 (fi hf1) (by simp only[go_sem,n1,n2]) (InF.go hin) (fun m h=>by rw[←hp,h];rfl) ?_
  intro t2 m7 ht2
  rw[ht2,PR.bind_ok] at hp
  have hm7:=Src.iC t2 m7 ht2
  have hm8:=Src.eT t2 m7 ht2
  have hw2:IntKind.i64.wrap (t2.num:Int)=(t2.num:Int):=by
   have:t2∈ts:=by
    unfold takeN at ht2
    split at ht2
    ·rename_i t' ht'
     split at ht2
     ·cases ht2;exact l8 ht'
     ·cases ht2
    ·cases ht2
   have:=hnum t2 this
   rw[wrap_i64] <;> omega
  unfold mF kN
  simp only[go_sem,n1,n2,q0,hw2,q3,o3,o32,hca,aD]
  refine⟨a7,⟨c8,a7⟩,?_⟩
  have e1:List.take (ars.length*2) (vX ars)++[C.d (D.str t.text),C.d (D.int IntKind.i64 ↑t2.num)]=vX (ars++[(t.text,(t2.num:Int))]):=by
   rw[l6 a7]
   simp[vX,arD]
  rw[e1]
  refine bu ts m7 fin aa rfl [[93]] (B+35) (by simp only[go_sem,n1,n2,hg,q0];all_goals rfl) (B+65) a7 (fi hf1) (by simp only[go_sem,n1,n2]) (by simp;omega) a7 a7 (by simp only[go_sem,n1,n2,bD]) (InF.go hin) (fun m h=>by rw[←hp,h];rfl) ?_
  intro m9 hm
  rw[hm,PR.bind_ok] at hp
  have hm9:=Src.bU (ts:=ts) a8 () m9 hm
  have hm10:=Src.bR () m9 hm
  simp only[go_sem,n1,n2,q0]
  refine bu ts m9 fin aa rfl [[59]] (B+38) (by simp only[go_sem,n1,n2,hg,q0];all_goals rfl) (B+65) a7 (fi hf1) (by simp only[go_sem,n1,n2]) (by simp;omega) a7 a7 (by simp only[go_sem,n1,n2,bD]) (InF.go hin) (fun m h=>by rw[←hp,show Src.jI=[59] from rfl,h];rfl) ?_
  intro m11 hm
  rw[show Src.jI=[59] from rfl,hm,PR.bind_ok] at hp
  have hm11:=Src.bU (ts:=ts) a8 () m11 hm
  have hm12:=Src.bR () m11 hm
  simp only[go_sem,n1,n2]
  refine ai (ts.length-m11) a7 ⟨j,m11,vs,ars++[(t.text,(t2.num:Int))],a7,a7,by rw[j5];simp;omega,a7,?_⟩
  simp only[go_sem,n1,n2,q0,q2,q3,j5]
  exact⟨⟨_,_,_,o2⟩,o12,o45,(InF.go hin),(fi hf1),hp⟩
 rw[if_neg h,PR.bind_ok] at hp
 simp only at hp
 simp only[go_sem,n1,n2,q0]
 obtain⟨f0,m0,hlook⟩:=look (lm ts k n')
 refine jc (∃a m,lm ts k n'=.ok a m) ae mixed aa [B+44,B+45,125] [([3],[0,2],[],false),([40],[0,2],[],false),([0],[],[],false),([42],[],[2],false),([43],[],[0],false),([41,44],[],[1],false),([3],[0,1,2],[],false),([46,45],[],[],true)] 3 rfl j0 rfl (by simp;omega) ?_
 simp only[go_sem]
 (apply bq;(case hf=>rfl);(case hg=>first|exact w9|exact⟨_,rfl,by decide,rfl⟩);(case h1=>intro fa ga oa K' hK;simp only[go_sem,n1,n2,q3,o3] at hK ⊢;exact hK))
 (apply bq;(case hf=>rfl);(case hg=>first|exact w9|exact⟨_,rfl,by decide,rfl⟩);(case h1=>intro fa ga oa K' hK;simp only[go_sem,n1,n2,q3,o3] at hK ⊢;exact hK))
 (apply bq;(case hf=>rfl);(case hg=>first|exact w9|exact⟨_,rfl,by decide,rfl⟩);(case h1=>intro fa ga oa K' hK;simp only[go_sem,q0] at hK ⊢;exact hK))
 refine jd (v:=fnV f0) (y:=some (rdC ts m0 fin)) w9 a8 (fun fa ga oa K' hK=>?_) ?_
 ·simp only[go_sem,n1,n2] at hK ⊢
  refine ay (k:=bx K') aa rfl (Ib hl (k:=k) (n:=n') a7 a7) (by simp only[go_sem,n1,n2,hg];all_goals rfl) (B+65) a7 (fi hf1) (by simp only[go_sem,n1,n2,o125]) (InF.go hin) (fun m h=>by rw[←hp,h];rfl) ?_
  intro a2 q2 h2
  have e:=hlook ⟨_,_,h2⟩
  rw[h2] at e
  cases e
  simp only[go_sem,n1,n2]
  exact hK ⟨_,_,h2⟩
 (apply iy;(case hf=>rfl);(case hg=>first|exact w9|exact⟨_,rfl,by decide,rfl⟩);(case h1=>intro fa ga oa K' hK;simp only[go_sem,fnV,fnD] at hK ⊢;exact hK))
 refine iy (a:=1) (v:=.one (.osl (B+45) (nxC (apC 115 (g1 (B+45)) 0) (g1 (B+45))) 5 0 1)) (x:=nxC (apC 115 (g1 (B+45)) 0) (g1 (B+45))) (y:=some (fnC [f0])) rfl w9 (fun fa ga oa K' hK=>?_) ?_
 ·simp only[go_sem,n1,n2,o45,aD,j6,ze,fnD] at hK ⊢
  exact⟨⟨c8,a7⟩,hK⟩
 (apply bq;(case hf=>rfl);(case hg=>first|exact w9|exact⟨_,rfl,by decide,rfl⟩);(case h1=>intro fa ga oa K' hK;simp only[go_sem,n1,n2,q3,o3] at hK ⊢;exact hK))
 refine je rfl w9 ?_
 intro K' hK'
 simp only[go_sem,n1,n2,o3]
 refine hK' _ ?_
 clear hK' K'
 intro hz'
 have e:=hlook hz'
 rw[e,PR.bind_ok] at hp
 have hm1:=Src.zC f0 m0 e
 have hm2:=Src.OA f0 m0 e
 simp only[go_sem,n1,n2,q0]
 refine ak (fun z st=>∃(j n'':Nat) (fs:List Src.Fn),z+n''=ts.length∧fs.length≤n''∧4*(ts.length-n'')+6≤j∧st.f 0=.one (.ptr 125 (g 125) 0)∧st.f 2=.one (.ptr (B+2) (st.gen (B+2)) 0)∧st.f 3=.one (.ptr (B+3) (st.gen (B+3)) 0)∧(∃a b c,st.obj (B+2)=some [a,b,c])∧
   st.obj (B+3)=some [.osl (B+12) (st.gen (B+12)) 1 0 vs.length,.osl (B+32) (st.gen (B+32)) 2 0 ars.length,.osl (B+45) (st.gen (B+45)) 5 0 fs.length]∧st.obj (B+12)=some (bD vs)∧st.obj (B+32)=some (vX ars)∧st.obj (B+45)=some (fnC fs)∧st.obj 125=some (rdC ts n'' fin)∧InF B g ob st.gen st.obj∧(∀i,B+65≤i→st.obj i=none)∧
   ((kZ ts j fs n'').bind fun fs n=>PR.ok (Src.Prog.mk vs ars fs) n)=p) (ts.length-m0) ?_ ?_
 ·refine⟨k,m0,[f0],a7,by simp;omega,a7,?_⟩
  simp only[go_sem,n1,n2,q0,q2,q3]
  exact⟨⟨_,_,_,o2⟩,o12,o32,(InF.go hin),(fi hf1),hp⟩
 clear hf1 hin hp q0 q2 q3 o2 o3 o12 o32 o45 o125 hlook hz' e hg
 rintro z f g1 ob1 ⟨j,n'',fs,hz,hfs,hj,q0,q2,q3,⟨a,b,c,o2⟩,o3,o12,o32,o45,o125,hin,hf1,hp⟩
 simp only at q0 q2 q3 o2 o3 o12 o32 o45 o125 hin hf1
 obtain⟨j,rfl⟩:∃i,j=i+1:=⟨j-1,a7⟩
 rw[kZ] at hp
 have hg:=hin.rd
 have o125':=o125
 unfold rdC gL at o125'
 have hcf:=Fx fs
 simp only[go_sem]
 refine aI j0 ?_
 by_cases hlt:n''<ts.length
 case neg=>
  rw[if_neg hlt,PR.bind_ok] at hp
  have hli:¬(n'':Int)<(ts.length:Int):=a7
  simp only[go_sem,n1,n2,hg,q0,o125',hli,j6,q2,q3,o2,o3]
  refine⟨_,ah.refl _,?_⟩
  simp only[go_sem,n1,n2,q2]
  refine InF.ret (n:=n'') (a:=⟨vs,ars,fs⟩) (rs:=[.agg [.d (.sl (vs.map fun s=>[.str s])),.d (.sl (ars.map arD)),.d (.sl (fs.map fnD))]]) (InF.go hin) (by simp only[go_sem,n1,n2,o125]) hp.symm ?_ rfl
  exact⟨_,_,rfl,.agg (xs:=[.sl (vs.map fun s=>[.str s]),.sl (ars.map arD),.sl (fs.map fnD)]) rfl (fun i e he=>by
   match i,he with
   |0,he=>cases he;exact⟨_,rfl,zc a7 (by simp only[go_sem,n1,n2]) (by simp only[go_sem,n1,n2,o12]) rfl⟩
   |1,he=>cases he;exact⟨_,rfl,Jr a7 (by simp only[go_sem,n1,n2]) (by simp only[go_sem,n1,n2,o32]) rfl⟩
   | 2,he=>cases he;exact⟨_,rfl,NZ a7 (by simp only[go_sem,n1,n2]) (by simp only[go_sem,n1,n2,o45]) rfl⟩),rfl⟩
 rw[if_pos hlt] at hp
 have hli:(n'':Int)<(ts.length:Int):=a7
 simp only[go_sem,n1,n2,hg,q0,o125',hli,j6]
 obtain⟨f1,m1,hlook⟩:=look (lm ts j n'')
 refine jc (∃a m,lm ts j n''=.ok a m) ae mixed aa [B+61,B+45,125] [([3],[0,2],[],false),([57],[0,2],[],false),([0],[],[],false),([59],[],[2],false),([60],[],[0],false),([58,61],[],[1],false),([3],[0,1,2],[],false),([63,62],[],[],true)] 3 rfl j0 rfl (by simp;omega) ?_
 simp only[go_sem]
 (apply bq;(case hf=>rfl);(case hg=>first|exact w9|exact⟨_,rfl,by decide,rfl⟩);(case h1=>intro fa ga oa K' hK;simp only[go_sem,n1,n2,q3,o3] at hK ⊢;exact hK))
 (apply bq;(case hf=>rfl);(case hg=>first|exact w9|exact⟨_,rfl,by decide,rfl⟩);(case h1=>intro fa ga oa K' hK;simp only[go_sem,n1,n2,q3,o3] at hK ⊢;exact hK))
 (apply bq;(case hf=>rfl);(case hg=>first|exact w9|exact⟨_,rfl,by decide,rfl⟩);(case h1=>intro fa ga oa K' hK;simp only[go_sem,q0] at hK ⊢;exact hK))
 refine jd (v:=fnV f1) (y:=some (rdC ts m1 fin)) w9 a8 (fun fa ga oa K' hK=>?_) ?_
 ·simp only[go_sem,n1,n2] at hK ⊢
  refine ay (k:=bx K') aa rfl (Ib hl (k:=j) (n:=n'') a7 a7) (by simp only[go_sem,n1,n2,hg];all_goals rfl) (B+65) a7 (fi hf1) (by simp only[go_sem,n1,n2,o125]) (InF.go hin) (fun m h=>by rw[←hp,h];rfl) ?_
  intro a2 q2 h2
  have e:=hlook ⟨_,_,h2⟩
  rw[h2] at e
  cases e
  simp only[go_sem,n1,n2]
  exact hK ⟨_,_,h2⟩
 (apply iy;(case hf=>rfl);(case hg=>first|exact w9|exact⟨_,rfl,by decide,rfl⟩);(case h1=>intro fa ga oa K' hK;simp only[go_sem,fnV,fnD] at hK ⊢;exact hK))
 refine iy (a:=1) (v:=.one (.osl (B+45) (nxC (apC 115 (g1 (B+45)) 0) (g1 (B+45))) 5 0 (fs.length+1))) (x:=nxC (apC 115 (g1 (B+45)) 0) (g1 (B+45))) (y:=some (fnC (fs++[f1]))) rfl w9 (fun fa ga oa K' hK=>?_) ?_
 ·simp only[go_sem,n1,n2,o45,aD,j6,hcf] at hK ⊢
  have e1:List.take (fs.length*5) (fnC fs)++(fnD f1).map C.d=fnC (fs++[f1]):=by
   rw[l6 a7,Fy,ze]
  simp only[fnD,l7,v7] at e1
  rw[e1]
  exact⟨a7,⟨c8,a7⟩,hK⟩
 (apply bq;(case hf=>rfl);(case hg=>first|exact w9|exact⟨_,rfl,by decide,rfl⟩);(case h1=>intro fa ga oa K' hK;simp only[go_sem,n1,n2,q3,o3] at hK ⊢;exact hK))
 refine je rfl w9 ?_
 intro K' hK'
 simp only[go_sem,n1,n2,o3]
 refine hK' _ ?_
 clear hK' K'
 intro hz'
 have e:=hlook hz'
 rw[e,PR.bind_ok] at hp
 have hm3:=Src.zC f1 m1 e
 have hm4:=Src.OA f1 m1 e
 simp only[go_sem,n1,n2,q0]
 refine ai (ts.length-m1) a7 ⟨j,m1,fs++[f1],a7,by rw[j5];simp;omega,a7,?_⟩
 simp only[go_sem,n1,n2,q0,q2,q3,j5]
 exact⟨⟨_,_,_,o2⟩,o12,o32,(InF.go hin),(fi hf1),hp⟩
end
end
end Go.Proofs.YtlglgadejgdpcaaGreatDoor
namespace Go.Src
section
open Go.Asm (Str letter il)
def cw (s:Str):Bool:=decide (s≠[]∧s.length≤20∧s.head?.any letter=true∧s.takeWhile il=s∧s∉DE)
def aM (named:Bool) (s:Str):Bool:=if named then cw s else decide (s=[])
def ol (kind op num:Int) (name:Str) (n:Nat):Bool:=
 if kind=1 then decide (op=0) && aM false name && decide (n=0)
 else if kind=2 then decide (op=0∧num=0) && aM true name && decide (n=0)
 else if kind=3 then decide (op=0∧num=0) && aM true name && decide (n=1)
 else if kind=4 then decide (op=0∧num=0) && aM true name && decide (n≤6)
 else if kind=5 then decide (op=0∧num=0) && aM false name && decide (n=0)
 else if kind=6 then decide ((4≤op∧op≤15)∧num=0) && aM false name && decide (n=2)
 else if kind=7 then decide (op=0∧num=0) && aM false name && decide (n=1)
 else if kind=8∨kind=9 then decide (op=0∧num=0) && aM false name && decide (n=2)
 else false
mutual
def jw (lv:Nat):Ex→Bool
 |.mk kind op num name kids=>decide (lv≤24)&&(ol kind op num name kids.length&&dG (lv+1) kids)
def dG (lv:Nat):List Ex→Bool
 |[]=>true
 |e::l=>jw lv e&&dG lv l
end
def oq (kind:Int) (name:Str) (n nt ne:Nat):Bool:=
 if kind=1 then aM true name && decide (n=1∧nt=0∧ne=0)
 else if kind=2 then aM true name && decide (n=2∧nt=0∧ne=0)
 else if kind=3 then aM false name && decide (n=1∧nt=0∧ne=0)
 else if kind=4 then aM false name && decide (n=1)
 else if kind=5 then aM false name && decide (n=1∧ne=0)
 else if kind=6 then aM true name && decide (n≤6∧nt=0∧ne=0)
 else if kind=7 then aM false name && decide (n≤1∧nt=0∧ne=0)
 else false
mutual
def iF (lv:Nat):Stm→Bool
 |.mk kind name e th el=>decide (lv≤24)&&(oq kind name e.length th.length el.length&&dG (lv+1) e)&&(dj (lv+1) th&&dj (lv+1) el)
def dj (lv:Nat):List Stm→Bool
 |[]=>true
 |s::l=>iF lv s&&dj lv l
end
def ee (f:Fn):Bool:=cw f.name&&decide (f.params.length≤6)&&(f.params.all cw&&f.locals.all cw&&dj 1 f.body)
def fB (a:Str×Int):Bool:=cw a.1&&decide (1≤a.2)&&decide (a.2≤4096)
def dE (p:Prog):Bool:=decide (1≤p.funcs.length∧p.funcs.length≤64)&&p.vars.all cw&&(p.arrays.all fB&&p.funcs.all ee)
mutual
def szE:Ex→Nat
 |.mk _ _ _ _ kids=>bC kids+1
def bC:List Ex→Nat
 |[]=>0
 |e::l=>szE e+bC l
end
mutual
def szS:Stm→Nat
 |.mk _ _ e th el=>bC e+bt th+bt el+1
def bt:List Stm→Nat
 |[]=>0
 |s::l=>szS s+bt l
end
theorem GU:∀{l:List Ex}{e:Ex},e∈l→szE e≤bC l
 |x::l,e,h=>by
   rw[bC]
   rcases x8.1 h with rfl|h
   ·omega
   ·have:=GU h;omega
theorem GV:∀{l:List Stm}{e:Stm},e∈l→szS e≤bt l
 |x::l,e,h=>by
   rw[bt]
   rcases x8.1 h with rfl|h
   ·omega
   ·have:=GV h;omega
theorem DS:∀l:List Ex,l.length≤bC l
 |[]=>l4 _
 |e::l=>by have:=DS l;cases e;simp only[bC,szE,j7];omega
theorem DT:∀l:List Stm,l.length≤bt l
 |[]=>l4 _
 |e::l=>by have:=DT l;cases e;simp only[bt,szS,j7];omega
theorem wV {lv:Nat}:∀l:List Ex,dG lv l=l.all (jw lv)
 |[]=>by simp[dG]
 |e::l=>by simp[dG,wV l]
theorem wW {lv:Nat}:∀l:List Stm,dj lv l=l.all (iF lv)
 |[]=>by simp[dj]
 |e::l=>by simp[dj,wW l]
theorem OB {α:Type}{p:α→Bool}{l:List α}{k:Nat}{x:α} (h:(l.take k).all p=true) (hx:l[k]? = some x) (hp:p x=true):(l.take (k+1)).all p=true:=by
 rw[A7,hx,N5,h];simp[hp]
theorem all_false {α:Type}{p:α→Bool}{l:List α}{k:Nat}{x:α} (hx:l[k]? = some x) (hp:p x=false):l.all p=false:=by
 rw[List.all_eq_false]
 exact⟨x,l8 hx,by simp[hp]⟩
end
end Go.Src
namespace Go.Proofs.YtlglgadejgdpcaaGreatDoor
section
attribute [local congr] Go.Am.ite_cc
open Go Go.Am Go.Asm
open Go.Src (cw)
section
variable {o:bF}
theorem Jt (ho:gv o) (s:Str):bj Tryz.prog 3 o 81 [sv s] (· = bv (cw s)):=by
 refine ap 0 3 o ae mixed Tryz.func81 rfl b9 [.tmp 2] rfl c9 c9 (by simp[Tryz.ntmps81]) fun b₀ β0 s0 w0 g=>?_
 obtain⟨z,hz⟩:∃z,cw s=z:=⟨_,rfl⟩
 rw[hz]
 unfold cw at hz
 by_cases hnil:s=[]
 ·obtain rfl:z=false:=by rw[←hz];exact y7 fun h=>h.1 hnil
  simp only[go_sem,r0 hnil]
 by_cases hlen:s.length≤20
 case neg=>
  obtain rfl:z=false:=by rw[←hz];exact y7 fun h=>hlen h.2.1
  have hli:¬(s.length:Int)≤20:=a7
  simp only[go_sem,hnil,hli]
 have hli:(s.length:Int)≤20:=a7
 obtain⟨c,hc⟩:∃c,s[0]? = some c:=by
  cases s with
  |nil=>exact absurd rfl hnil
  |cons c r=>exact⟨c,rfl⟩
 have hhd:s.head? = some c:=by rw[←hc,List.head?_eq_getElem?]
 simp only[go_sem,hnil,hli,hc]
 refine aR ab rfl (by simp only[go_sem];exact mA c) (by simp only[go_sem];rfl) ?_
 rintro _ rfl
 cases hlc:letter c
 ·obtain rfl:z=false:=by rw[←hz];exact y7 fun h=>by have:=h.2.2.1;rw[hhd] at this;simp[hlc] at this
  simp only[go_sem]
 simp only[go_sem]
 refine aR ab rfl (by simp only[go_sem];exact qy (fun c=>tH c) s a7) (by simp only[go_sem];rfl) ?_
 rintro _ rfl
 by_cases hfr:s.takeWhile il=s
 case neg=>
  obtain rfl:z=false:=by rw[←hz];exact y7 fun h=>hfr h.2.2.2.1
  simp only[go_sem,hfr]
 simp only[go_sem,hfr]
 refine aj ab (fun s β ds w h=>h.1.2) rfl (by simp only[go_sem];exact wG ho s) (by simp only[go_sem];rfl) ?_
 rintro _ rfl
 by_cases hw:s∈Src.DE
 ·obtain rfl:z=false:=by rw[←hz];exact y7 fun h=>h.2.2.2.2 hw
  simp only[go_sem,hw]
 ·obtain rfl:z=true:=by rw[←hz];exact D3 ⟨hnil,hlen,by rw[hhd];simp[hlc],hfr,hw⟩
  simp only[go_sem,hw]
theorem kI (ho:gv o) (s:Str):bj Tryz.prog 3 o 53 [sv s] (· = bv (cw s)):=by
 refine ap 0 3 o ae mixed Tryz.func53 rfl b9 [.tmp 2] rfl c9 c9 (by simp[Tryz.ntmps53]) fun b₀ β0 s0 w0 g=>?_
 have hno:s∈Src.DE→cw s=false:=fun h=>y7 fun h'=>h'.2.2.2.2 h
 obtain⟨z,hz⟩:∃z,cw s=z:=⟨_,rfl⟩
 rw[hz]
 rw[hz] at hno
 by_cases h0:s=[118,97,114]
 ·obtain rfl:=hno (by rw[h0];decide)
  simp only[go_sem,r0 h0]
 by_cases h1:s=[97,114,114,97,121]
 ·obtain rfl:=hno (by rw[h1];decide)
  simp only[go_sem,h0,r0 h1]
 by_cases h2:s=[102,117,110,99]
 ·obtain rfl:=hno (by rw[h2];decide)
  simp only[go_sem,h0,h1,r0 h2]
 by_cases h3:s=[119,111,114,100]
 ·obtain rfl:=hno (by rw[h3];decide)
  simp only[go_sem,h0,h1,h2,r0 h3]
 by_cases h4:s=[105,102]
 ·obtain rfl:=hno (by rw[h4];decide)
  simp only[go_sem,h0,h1,h2,h3,r0 h4]
 by_cases h5:s=[101,108,115,101]
 ·obtain rfl:=hno (by rw[h5];decide)
  simp only[go_sem,h0,h1,h2,h3,h4,r0 h5]
 by_cases h6:s=[119,104,105,108,101]
 ·obtain rfl:=hno (by rw[h6];decide)
  simp only[go_sem,h0,h1,h2,h3,h4,h5,r0 h6]
 by_cases h7:s=[114,101,116,117,114,110]
 ·obtain rfl:=hno (by rw[h7];decide)
  simp only[go_sem,h0,h1,h2,h3,h4,h5,h6,r0 h7]
 by_cases h8:s=[112,117,116]
 ·obtain rfl:=hno (by rw[h8];decide)
  simp only[go_sem,h0,h1,h2,h3,h4,h5,h6,h7,r0 h8]
 by_cases h9:s=[103,101,116]
 ·obtain rfl:=hno (by rw[h9];decide)
  simp only[go_sem,h0,h1,h2,h3,h4,h5,h6,h7,h8,r0 h9]
 simp only[go_sem,h0,h1,h2,h3,h4,h5,h6,h7,h8,h9]
 refine aj ab (fun s β ds w h=>h.1.2) rfl (by simp only[go_sem];exact Jt ho s) (by simp only[go_sem];rfl) ?_
 rintro _ rfl
 rw[hz]
 simp only[go_sem]
theorem bN (ho:gv o) (s:Str) (b:Bool):bj Tryz.prog 3 o 114 [sv s,bv b] (· = bv (Src.aM b s)):=by
 refine ap 0 3 o ae mixed Tryz.func114 rfl b9 [.tmp 4] rfl c9 c9 (by simp[Tryz.ntmps114]) fun b₀ β0 s0 w0 g=>?_
 unfold Src.aM
 cases b
 ·simp only[go_sem]
 ·simp only[go_sem]
  refine aj ab (fun s β ds w h=>h.1.2) rfl (by simp only[go_sem];exact kI ho s) (by simp only[go_sem];rfl) ?_
  rintro _ rfl
  simp only[go_sem]
theorem nh (ho:gv o) (l:List Str) (hl:l.length≤1000000000):bj Tryz.prog 3 o 52 [jo l] (· = bv (l.all cw)):=by
 refine ap 0 3 o ae mixed Tryz.func52 rfl b9 [.tmp 2] rfl c9 c9 (by simp[Tryz.ntmps52]) fun b₀ β0 s0 w0 g=>?_
 unfold jo
 simp only[go_sem,j6]
 refine ak (fun z st=>∃k:Nat,z+k=l.length∧(l.take k).all cw=true∧st.f 5=.one (.d (.sl (l.map fun s=>[.str s])))∧st.f 6=iv .i64 l.length∧st.f 7=iv .i64 k) l.length ?_ ?_
 ·refine⟨0,rfl,a8,?_⟩
  simp only[go_sem]
 rintro z f g1 ob1 ⟨k,hk,hall,q5,q6,q7⟩
 simp only at q5 q6 q7
 have hw:=am (k:=k) a7
 by_cases hlt:k<l.length
 case neg=>
  have hki:¬(k:Int)<(l.length:Int):=a7
  obtain rfl:k=l.length:=a7
  rw[l6 (l4 _)] at hall
  simp only[go_sem,q6,q7,hki,hall]
 have hki:(k:Int)<(l.length:Int):=a7
 have hk0:(0:Int)≤(k:Int):=a7
 obtain⟨s,hs⟩:=getq hlt
 simp only[go_sem,q5,q6,q7,hki,hk0,hs]
 refine aj ab (fun s β ds w h=>h.1.2) rfl (by simp only[go_sem];exact kI ho s) (by simp only[go_sem];rfl) ?_
 rintro _ rfl
 cases hb:cw s
 ·simp only[go_sem,Src.all_false hs hb]
 ·simp only[go_sem,q7,hw]
  refine ai (z-1) a7 ⟨k+1,a7,Src.OB hall hs hb,?_⟩
  simp only[go_sem,q5,q6]
end
end
section
attribute [local congr] Go.Am.ite_cc
open Go Go.Am Go.Asm
open Go.Src (cw aM ol oq Ex Stm)
theorem xP {o:bF} (ho:gv o) (e:Ex):bj Tryz.prog 3 o 115 [exV e] (· = bv (match e with|.mk kind op num name kids=>ol kind op num name kids.length)):=by
 obtain⟨kind,op,num,name,kids⟩:=e
 refine ap 0 3 o ae mixed Tryz.func115 rfl b9 [.tmp 2] rfl c9 c9 (by simp[Tryz.ntmps115]) fun b₀ β0 s0 w0 g=>?_
 simp only
 obtain⟨z,hz⟩:∃z,ol kind op num name kids.length=z:=⟨_,rfl⟩
 rw[hz]
 unfold exV
 simp only[exD,aX,l7,v7]
 unfold ol at hz
 by_cases k1:kind=1
 ·rw[if_pos k1] at hz
  by_cases ho0:op=0
  case neg=>
   obtain rfl:z=false:=by rw[←hz];simp[ho0]
   simp only[go_sem,r0 k1,ho0]
  simp only[go_sem,r0 k1,r0 ho0]
  refine aj ab (fun s β ds w h=>h.1.2) rfl (by simp only[go_sem];exact bN ho name false) (by simp only[go_sem];rfl) ?_
  rintro _ rfl
  cases hnm:aM false name
  ·obtain rfl:z=false:=by rw[←hz];simp[hnm]
   simp only[go_sem,r0 k1,r0 ho0]
  by_cases hln:kids.length=0
  case neg=>
   obtain rfl:z=false:=by rw[←hz];simp[hln]
   have hlo:(0:Int)≤(kids.length:Int):=a7
   have hhi:¬(kids.length:Int)≤0:=a7
   simp only[go_sem,r0 k1,r0 ho0,j6,hlo,hhi]
  have hlo:(0:Int)≤(kids.length:Int):=a7
  have hhi:(kids.length:Int)≤0:=a7
  obtain rfl:z=true:=by rw[←hz];simp[ho0,hnm,hln]
  simp only[go_sem,r0 k1,r0 ho0,j6,hlo,hhi]
 by_cases k2:kind=2
 ·rw[if_neg k1,if_pos k2] at hz
  by_cases ho0:op=0
  case neg=>
   obtain rfl:z=false:=by rw[←hz];simp[ho0]
   simp only[go_sem,r0 k2,k1,ho0]
  by_cases hn0:num=0
  case neg=>
   obtain rfl:z=false:=by rw[←hz];simp[hn0]
   simp only[go_sem,r0 k2,k1,r0 ho0,hn0]
  simp only[go_sem,r0 k2,k1,r0 ho0,r0 hn0]
  refine aj ab (fun s β ds w h=>h.1.2) rfl (by simp only[go_sem];exact bN ho name true) (by simp only[go_sem];rfl) ?_
  rintro _ rfl
  cases hnm:aM true name
  ·obtain rfl:z=false:=by rw[←hz];simp[hnm]
   simp only[go_sem,r0 k2,k1,r0 ho0,r0 hn0]
  by_cases hln:kids.length=0
  case neg=>
   obtain rfl:z=false:=by rw[←hz];simp[hln]
   have hlo:(0:Int)≤(kids.length:Int):=a7
   have hhi:¬(kids.length:Int)≤0:=a7
   simp only[go_sem,r0 k2,k1,r0 ho0,r0 hn0,j6,hlo,hhi]
  have hlo:(0:Int)≤(kids.length:Int):=a7
  have hhi:(kids.length:Int)≤0:=a7
  obtain rfl:z=true:=by rw[←hz];simp[ho0,hn0,hnm,hln]
  simp only[go_sem,r0 k2,k1,r0 ho0,r0 hn0,j6,hlo,hhi]
 by_cases k3:kind=3
 ·rw[if_neg k1,if_neg k2,if_pos k3] at hz
  by_cases ho0:op=0
  case neg=>
   obtain rfl:z=false:=by rw[←hz];simp[ho0]
   simp only[go_sem,r0 k3,k1,k2,ho0]
  by_cases hn0:num=0
  case neg=>
   obtain rfl:z=false:=by rw[←hz];simp[hn0]
   simp only[go_sem,r0 k3,k1,k2,r0 ho0,hn0]
  simp only[go_sem,r0 k3,k1,k2,r0 ho0,r0 hn0]
  refine aj ab (fun s β ds w h=>h.1.2) rfl (by simp only[go_sem];exact bN ho name true) (by simp only[go_sem];rfl) ?_
  rintro _ rfl
  cases hnm:aM true name
  ·obtain rfl:z=false:=by rw[←hz];simp[hnm]
   simp only[go_sem,r0 k3,k1,k2,r0 ho0,r0 hn0]
  by_cases hln:kids.length=1
  case neg=>
   obtain rfl:z=false:=by rw[←hz];simp[hln]
   by_cases hlo:(1:Int)≤(kids.length:Int)
   ·have hhi:¬(kids.length:Int)≤1:=a7
    simp only[go_sem,r0 k3,k1,k2,r0 ho0,r0 hn0,j6,hlo,hhi]
   ·simp only[go_sem,r0 k3,k1,k2,r0 ho0,r0 hn0,j6,hlo]
  have hlo:(1:Int)≤(kids.length:Int):=a7
  have hhi:(kids.length:Int)≤1:=a7
  obtain rfl:z=true:=by rw[←hz];simp[ho0,hn0,hnm,hln]
  simp only[go_sem,r0 k3,k1,k2,r0 ho0,r0 hn0,j6,hlo,hhi]
 by_cases k4:kind=4
 ·rw[if_neg k1,if_neg k2,if_neg k3,if_pos k4] at hz
  by_cases ho0:op=0
  case neg=>
   obtain rfl:z=false:=by rw[←hz];simp[ho0]
   simp only[go_sem,r0 k4,k1,k2,k3,ho0]
  by_cases hn0:num=0
  case neg=>
   obtain rfl:z=false:=by rw[←hz];simp[hn0]
   simp only[go_sem,r0 k4,k1,k2,k3,r0 ho0,hn0]
  simp only[go_sem,r0 k4,k1,k2,k3,r0 ho0,r0 hn0]
  refine aj ab (fun s β ds w h=>h.1.2) rfl (by simp only[go_sem];exact bN ho name true) (by simp only[go_sem];rfl) ?_
  rintro _ rfl
  cases hnm:aM true name
  ·obtain rfl:z=false:=by rw[←hz];simp[hnm]
   simp only[go_sem,r0 k4,k1,k2,k3,r0 ho0,r0 hn0]
  have hlo:(0:Int)≤(kids.length:Int):=a7
  by_cases hln:kids.length≤6
  case neg=>
   obtain rfl:z=false:=by rw[←hz];simp;omega
   have hhi:¬(kids.length:Int)≤6:=a7
   simp only[go_sem,r0 k4,k1,k2,k3,r0 ho0,r0 hn0,j6,hlo,hhi]
  have hhi:(kids.length:Int)≤6:=a7
  obtain rfl:z=true:=by rw[←hz];simp[ho0,hn0,hnm,hln]
  simp only[go_sem,r0 k4,k1,k2,k3,r0 ho0,r0 hn0,j6,hlo,hhi]
 by_cases k5:kind=5
 ·rw[if_neg k1,if_neg k2,if_neg k3,if_neg k4,if_pos k5] at hz
  by_cases ho0:op=0
  case neg=>
   obtain rfl:z=false:=by rw[←hz];simp[ho0]
   simp only[go_sem,r0 k5,k1,k2,k3,k4,ho0]
  by_cases hn0:num=0
  case neg=>
   obtain rfl:z=false:=by rw[←hz];simp[hn0]
   simp only[go_sem,r0 k5,k1,k2,k3,k4,r0 ho0,hn0]
  simp only[go_sem,r0 k5,k1,k2,k3,k4,r0 ho0,r0 hn0]
  refine aj ab (fun s β ds w h=>h.1.2) rfl (by simp only[go_sem];exact bN ho name false) (by simp only[go_sem];rfl) ?_
  rintro _ rfl
  cases hnm:aM false name
  ·obtain rfl:z=false:=by rw[←hz];simp[hnm]
   simp only[go_sem,r0 k5,k1,k2,k3,k4,r0 ho0,r0 hn0]
  by_cases hln:kids.length=0
  case neg=>
   obtain rfl:z=false:=by rw[←hz];simp[hln]
   have hlo:(0:Int)≤(kids.length:Int):=a7
   have hhi:¬(kids.length:Int)≤0:=a7
   simp only[go_sem,r0 k5,k1,k2,k3,k4,r0 ho0,r0 hn0,j6,hlo,hhi]
  have hlo:(0:Int)≤(kids.length:Int):=a7
  have hhi:(kids.length:Int)≤0:=a7
  obtain rfl:z=true:=by rw[←hz];simp[ho0,hn0,hnm,hln]
  simp only[go_sem,r0 k5,k1,k2,k3,k4,r0 ho0,r0 hn0,j6,hlo,hhi]
 by_cases k6:kind=6
 ·rw[if_neg k1,if_neg k2,if_neg k3,if_neg k4,if_neg k5,if_pos k6] at hz
  by_cases hol:op<4
  case pos=>
   have hx:¬4≤op:=a7
   obtain rfl:z=false:=by rw[←hz];simp[hx]
   simp only[go_sem,r0 k6,k1,k2,k3,k4,k5,hol]
  by_cases hoh:15<op
  case pos=>
   have hx:¬op≤15:=a7
   obtain rfl:z=false:=by rw[←hz];simp[hx]
   simp only[go_sem,r0 k6,k1,k2,k3,k4,k5,hol,hoh]
  have hx1:4≤op:=a7
  have hx2:op≤15:=a7
  by_cases hn0:num=0
  case neg=>
   obtain rfl:z=false:=by rw[←hz];simp[hn0]
   simp only[go_sem,r0 k6,k1,k2,k3,k4,k5,hol,hoh,hn0]
  simp only[go_sem,r0 k6,k1,k2,k3,k4,k5,hol,hoh,r0 hn0]
  refine aj ab (fun s β ds w h=>h.1.2) rfl (by simp only[go_sem];exact bN ho name false) (by simp only[go_sem];rfl) ?_
  rintro _ rfl
  cases hnm:aM false name
  ·obtain rfl:z=false:=by rw[←hz];simp[hnm]
   simp only[go_sem,r0 k6,k1,k2,k3,k4,k5,hol,hoh,r0 hn0]
  by_cases hln:kids.length=2
  case neg=>
   obtain rfl:z=false:=by rw[←hz];simp[hln]
   by_cases hlo:(2:Int)≤(kids.length:Int)
   ·have hhi:¬(kids.length:Int)≤2:=a7
    simp only[go_sem,r0 k6,k1,k2,k3,k4,k5,hol,hoh,r0 hn0,j6,hlo,hhi]
   ·simp only[go_sem,r0 k6,k1,k2,k3,k4,k5,hol,hoh,r0 hn0,j6,hlo]
  have hlo:(2:Int)≤(kids.length:Int):=a7
  have hhi:(kids.length:Int)≤2:=a7
  obtain rfl:z=true:=by rw[←hz];simp[hx1,hx2,hn0,hnm,hln]
  simp only[go_sem,r0 k6,k1,k2,k3,k4,k5,hol,hoh,r0 hn0,j6,hlo,hhi]
 by_cases k7:kind=7
 ·rw[if_neg k1,if_neg k2,if_neg k3,if_neg k4,if_neg k5,if_neg k6,if_pos k7] at hz
  by_cases ho0:op=0
  case neg=>
   obtain rfl:z=false:=by rw[←hz];simp[ho0]
   simp only[go_sem,r0 k7,k1,k2,k3,k4,k5,k6,ho0]
  by_cases hn0:num=0
  case neg=>
   obtain rfl:z=false:=by rw[←hz];simp[hn0]
   simp only[go_sem,r0 k7,k1,k2,k3,k4,k5,k6,r0 ho0,hn0]
  simp only[go_sem,r0 k7,k1,k2,k3,k4,k5,k6,r0 ho0,r0 hn0]
  refine aj ab (fun s β ds w h=>h.1.2) rfl (by simp only[go_sem];exact bN ho name false) (by simp only[go_sem];rfl) ?_
  rintro _ rfl
  cases hnm:aM false name
  ·obtain rfl:z=false:=by rw[←hz];simp[hnm]
   simp only[go_sem,r0 k7,k1,k2,k3,k4,k5,k6,r0 ho0,r0 hn0]
  by_cases hln:kids.length=1
  case neg=>
   obtain rfl:z=false:=by rw[←hz];simp[hln]
   by_cases hlo:(1:Int)≤(kids.length:Int)
   ·have hhi:¬(kids.length:Int)≤1:=a7
    simp only[go_sem,r0 k7,k1,k2,k3,k4,k5,k6,r0 ho0,r0 hn0,j6,hlo,hhi]
   ·simp only[go_sem,r0 k7,k1,k2,k3,k4,k5,k6,r0 ho0,r0 hn0,j6,hlo]
  have hlo:(1:Int)≤(kids.length:Int):=a7
  have hhi:(kids.length:Int)≤1:=a7
  obtain rfl:z=true:=by rw[←hz];simp[ho0,hn0,hnm,hln]
  simp only[go_sem,r0 k7,k1,k2,k3,k4,k5,k6,r0 ho0,r0 hn0,j6,hlo,hhi]
 by_cases k8:kind=8
 ·rw[if_neg k1,if_neg k2,if_neg k3,if_neg k4,if_neg k5,if_neg k6,if_neg k7,if_pos (Or.inl k8)] at hz
  by_cases ho0:op=0
  case neg=>
   obtain rfl:z=false:=by rw[←hz];simp[ho0]
   simp only[go_sem,r0 k8,k1,k2,k3,k4,k5,k6,k7,ho0]
  by_cases hn0:num=0
  case neg=>
   obtain rfl:z=false:=by rw[←hz];simp[hn0]
   simp only[go_sem,r0 k8,k1,k2,k3,k4,k5,k6,k7,r0 ho0,hn0]
  simp only[go_sem,r0 k8,k1,k2,k3,k4,k5,k6,k7,r0 ho0,r0 hn0]
  refine aj ab (fun s β ds w h=>h.1.2) rfl (by simp only[go_sem];exact bN ho name false) (by simp only[go_sem];rfl) ?_
  rintro _ rfl
  cases hnm:aM false name
  ·obtain rfl:z=false:=by rw[←hz];simp[hnm]
   simp only[go_sem,r0 k8,k1,k2,k3,k4,k5,k6,k7,r0 ho0,r0 hn0]
  by_cases hln:kids.length=2
  case neg=>
   obtain rfl:z=false:=by rw[←hz];simp[hln]
   by_cases hlo:(2:Int)≤(kids.length:Int)
   ·have hhi:¬(kids.length:Int)≤2:=a7
    simp only[go_sem,r0 k8,k1,k2,k3,k4,k5,k6,k7,r0 ho0,r0 hn0,j6,hlo,hhi]
   ·simp only[go_sem,r0 k8,k1,k2,k3,k4,k5,k6,k7,r0 ho0,r0 hn0,j6,hlo]
  have hlo:(2:Int)≤(kids.length:Int):=a7
  have hhi:(kids.length:Int)≤2:=a7
  obtain rfl:z=true:=by rw[←hz];simp[ho0,hn0,hnm,hln]
  simp only[go_sem,r0 k8,k1,k2,k3,k4,k5,k6,k7,r0 ho0,r0 hn0,j6,hlo,hhi]
 by_cases k9:kind=9
 ·rw[if_neg k1,if_neg k2,if_neg k3,if_neg k4,if_neg k5,if_neg k6,if_neg k7,if_pos (Or.inr k9)] at hz
  by_cases ho0:op=0
  case neg=>
   obtain rfl:z=false:=by rw[←hz];simp[ho0]
   simp only[go_sem,r0 k9,k1,k2,k3,k4,k5,k6,k7,k8,ho0]
  by_cases hn0:num=0
  case neg=>
   obtain rfl:z=false:=by rw[←hz];simp[hn0]
   simp only[go_sem,r0 k9,k1,k2,k3,k4,k5,k6,k7,k8,r0 ho0,hn0]
  simp only[go_sem,r0 k9,k1,k2,k3,k4,k5,k6,k7,k8,r0 ho0,r0 hn0]
  refine aj ab (fun s β ds w h=>h.1.2) rfl (by simp only[go_sem];exact bN ho name false) (by simp only[go_sem];rfl) ?_
  rintro _ rfl
  cases hnm:aM false name
  ·obtain rfl:z=false:=by rw[←hz];simp[hnm]
   simp only[go_sem,r0 k9,k1,k2,k3,k4,k5,k6,k7,k8,r0 ho0,r0 hn0]
  by_cases hln:kids.length=2
  case neg=>
   obtain rfl:z=false:=by rw[←hz];simp[hln]
   by_cases hlo:(2:Int)≤(kids.length:Int)
   ·have hhi:¬(kids.length:Int)≤2:=a7
    simp only[go_sem,r0 k9,k1,k2,k3,k4,k5,k6,k7,k8,r0 ho0,r0 hn0,j6,hlo,hhi]
   ·simp only[go_sem,r0 k9,k1,k2,k3,k4,k5,k6,k7,k8,r0 ho0,r0 hn0,j6,hlo]
  have hlo:(2:Int)≤(kids.length:Int):=a7
  have hhi:(kids.length:Int)≤2:=a7
  obtain rfl:z=true:=by rw[←hz];simp[ho0,hn0,hnm,hln]
  simp only[go_sem,r0 k9,k1,k2,k3,k4,k5,k6,k7,k8,r0 ho0,r0 hn0,j6,hlo,hhi]
 obtain rfl:z=false:=by rw[←hz];simp[k1,k2,k3,k4,k5,k6,k7,k8,k9]
 simp only[go_sem,k1,k2,k3,k4,k5,k6,k7,k8,k9]
end
section
attribute [local congr] Go.Am.ite_cc
open Go Go.Am Go.Asm
open Go.Src (cw aM ol oq jw dG szE bC Ex Stm)
theorem uF {o:bF} (ho:gv o):∀(N:Nat) (l:List Ex) (lv:Nat),bC l≤N→N≤1000000000→lv≤25→bj Tryz.prog 3 o 83 [iV l,iv .i64 lv] (· = bv (dG lv l)):=by
 intro N
 induction N using Nat.strongRecOn with
 |ind N ih=>
 intro l lv hsz hN hlv
 refine ap 0 3 o ae mixed Tryz.func83 rfl b9 [.tmp 4] rfl c9 c9 (by simp[Tryz.ntmps83]) fun b₀ β0 s0 w0 g=>?_
 obtain⟨z,hz⟩:∃z,dG lv l=z:=⟨_,rfl⟩
 rw[hz]
 have hll:=Src.DS l
 have hwl:=am (k:=lv) a7
 unfold iV
 by_cases hbad:0<l.length∧24<lv
 ·have h1:(0:Int)<(l.length:Int):=a7
  have h2:(24:Int)<(lv:Int):=a7
  obtain rfl:z=false:=by
   rw[←hz]
   cases l with
   |nil=>simp at hbad
   |cons e l=>obtain⟨kind,op,num,name,kids⟩:=e;simp[dG,jw];omega
  simp only[go_sem,j6,h1,h2]
 by_cases hl0:l=[]
 ·subst hl0
  obtain rfl:z=true:=by rw[←hz];simp[dG]
  simp only[go_sem,j8,v7]
  refine ak (fun m st=>m=0∧st.f 14=.one (.d (.sl []))∧st.f 15=iv .i64 0∧st.f 16=iv .i64 0) 0 ?_ ?_
  ·simp only[go_sem]
  rintro m f g1 ob1 ⟨rfl,q14,q15,q16⟩
  simp only at q14 q15 q16
  simp only[go_sem,q14,q15,q16]
 have hlp:0<l.length:=N0.2 hl0
 have hc:(0:Int)<(l.length:Int):=a7
 have hc2:¬(24:Int)<(lv:Int):=a7
 simp only[go_sem,j6,hc,hc2]
 refine ak (fun m st=>∃k:Nat,m+k=l.length∧(l.take k).all (jw lv)=true∧st.f 1=iv .i64 lv∧st.f 14=.one (.d (.sl (l.map exD)))∧st.f 15=iv .i64 l.length∧st.f 16=iv .i64 k) l.length ?_ ?_
 ·refine⟨0,rfl,a8,?_⟩
  simp only[go_sem]
 rintro m f g1 ob1 ⟨k,hk,hall,q1,q14,q15,q16⟩
 simp only at q1 q14 q15 q16
 have hw:=am (k:=k) a7
 by_cases hlt:k<l.length
 case neg=>
  have hki:¬(k:Int)<(l.length:Int):=a7
  obtain rfl:k=l.length:=a7
  rw[l6 (l4 _)] at hall
  obtain rfl:z=true:=by rw[←hz,Src.wV];exact hall
  simp only[go_sem,q15,q16,hki]
 have hki:(k:Int)<(l.length:Int):=a7
 have hk0:(0:Int)≤(k:Int):=a7
 obtain⟨e,he⟩:=getq hlt
 obtain⟨kind,op,num,name,kids⟩:=e
 have hszk:=Src.GU (l8 he)
 rw[szE] at hszk
 have hE:exD (.mk kind op num name kids)=[.int .i64 kind,.int .i64 op,.int .u32 num,.str name,.sl (kids.map exD)]:=by simp only[exD,aX]
 have hF:=xP ho (.mk kind op num name kids)
 have hK:=ih (bC kids) a7 kids (lv+1) (l4 _) a7 a7
 unfold exV at hF
 unfold iV at hK
 rw[hE] at hF
 simp only[l7,v7] at hF
 have hl24:lv≤24:=a7
 simp only[go_sem,q1,q14,q15,q16,hki,hk0,he,hE]
 refine aj ab (fun s β ds w h=>h.1.2) rfl (by simp only[go_sem];exact hF) (by simp only[go_sem];rfl) ?_
 rintro _ rfl
 cases hf:ol kind op num name kids.length
 ·obtain rfl:z=false:=by rw[←hz,Src.wV];exact Src.all_false he (by simp[jw,hf])
  simp only[go_sem,hf]
 simp only[go_sem,q1,hwl]
 refine aj ab (fun s β ds w h=>h.1.2) rfl (by simp only[go_sem,q1,hwl];exact hK) (by simp only[go_sem];rfl) ?_
 rintro _ rfl
 cases hr:dG (lv+1) kids
 ·obtain rfl:z=false:=by rw[←hz,Src.wV];exact Src.all_false he (by simp[jw,hf,hr])
  simp only[go_sem]
 ·simp only[go_sem,q16,hw]
  refine ai (m-1) a7 ⟨k+1,a7,Src.OB hall he (by simp[jw,hf,hr,hl24]),?_⟩
  simp only[go_sem,q1,q14,q15]
theorem xQ {o:bF} (ho:gv o) (e:Stm):bj Tryz.prog 3 o 82 [smV e] (· = bv (match e with|.mk kind name e th el=>oq kind name e.length th.length el.length)):=by
 obtain⟨kind,name,e,th,el⟩:=e
 refine ap 0 3 o ae mixed Tryz.func82 rfl b9 [.tmp 2] rfl c9 c9 (by simp[Tryz.ntmps82]) fun b₀ β0 s0 w0 g=>?_
 simp only
 obtain⟨z,hz⟩:∃z,oq kind name e.length th.length el.length=z:=⟨_,rfl⟩
 rw[hz]
 unfold smV
 simp only[smD,aX,fk,l7,v7]
 unfold oq at hz
 by_cases k1:kind=1
 ·rw[if_pos k1] at hz
  simp only[go_sem,r0 k1]
  refine aj ab (fun s β ds w h=>h.1.2) rfl (by simp only[go_sem];exact bN ho name true) (by simp only[go_sem];rfl) ?_
  rintro _ rfl
  cases hnm:aM true name
  ·obtain rfl:z=false:=by rw[←hz];simp[hnm]
   simp only[go_sem,r0 k1]
  have e0:(0:Int)≤(e.length:Int):=a7
  by_cases hlo:(e.length:Int)<1
  ·obtain rfl:z=false:=by rw[←hz,hnm,v8];exact y7 a7
   simp only[go_sem,r0 k1,j6,hlo]
  by_cases hhi:(1:Int)<(e.length:Int)
  ·obtain rfl:z=false:=by rw[←hz,hnm,v8];exact y7 a7
   simp only[go_sem,r0 k1,j6,hlo,hhi]
  by_cases hth:(th.length:Int)=0
  case neg=>
   obtain rfl:z=false:=by rw[←hz,hnm,v8];exact y7 a7
   simp only[go_sem,r0 k1,j6,hlo,hhi,hth]
  by_cases hel:(el.length:Int)=0
  case neg=>
   obtain rfl:z=false:=by rw[←hz,hnm,v8];exact y7 a7
   simp only[go_sem,r0 k1,j6,hlo,hhi,hth,hel]
  obtain rfl:z=true:=by rw[←hz,hnm,v8];exact D3 a7
  simp only[go_sem,r0 k1,j6,hlo,hhi,hth,hel]
 by_cases k2:kind=2
 ·rw[if_neg k1,if_pos k2] at hz
  simp only[go_sem,r0 k2,k1]
  refine aj ab (fun s β ds w h=>h.1.2) rfl (by simp only[go_sem];exact bN ho name true) (by simp only[go_sem];rfl) ?_
  rintro _ rfl
  cases hnm:aM true name
  ·obtain rfl:z=false:=by rw[←hz];simp[hnm]
   simp only[go_sem,r0 k2,k1]
  have e0:(0:Int)≤(e.length:Int):=a7
  by_cases hlo:(e.length:Int)<2
  ·obtain rfl:z=false:=by rw[←hz,hnm,v8];exact y7 a7
   simp only[go_sem,r0 k2,k1,j6,hlo]
  by_cases hhi:(2:Int)<(e.length:Int)
  ·obtain rfl:z=false:=by rw[←hz,hnm,v8];exact y7 a7
   simp only[go_sem,r0 k2,k1,j6,hlo,hhi]
  by_cases hth:(th.length:Int)=0
  case neg=>
   obtain rfl:z=false:=by rw[←hz,hnm,v8];exact y7 a7
   simp only[go_sem,r0 k2,k1,j6,hlo,hhi,hth]
  by_cases hel:(el.length:Int)=0
  case neg=>
   obtain rfl:z=false:=by rw[←hz,hnm,v8];exact y7 a7
   simp only[go_sem,r0 k2,k1,j6,hlo,hhi,hth,hel]
  obtain rfl:z=true:=by rw[←hz,hnm,v8];exact D3 a7
  simp only[go_sem,r0 k2,k1,j6,hlo,hhi,hth,hel]
 by_cases k3:kind=3
 ·rw[if_neg k1,if_neg k2,if_pos k3] at hz
  simp only[go_sem,r0 k3,k1,k2]
  refine aj ab (fun s β ds w h=>h.1.2) rfl (by simp only[go_sem];exact bN ho name false) (by simp only[go_sem];rfl) ?_
  rintro _ rfl
  cases hnm:aM false name
  ·obtain rfl:z=false:=by rw[←hz];simp[hnm]
   simp only[go_sem,r0 k3,k1,k2]
  have e0:(0:Int)≤(e.length:Int):=a7
  by_cases hlo:(e.length:Int)<1
  ·obtain rfl:z=false:=by rw[←hz,hnm,v8];exact y7 a7
   simp only[go_sem,r0 k3,k1,k2,j6,hlo]
  by_cases hhi:(1:Int)<(e.length:Int)
  ·obtain rfl:z=false:=by rw[←hz,hnm,v8];exact y7 a7
   simp only[go_sem,r0 k3,k1,k2,j6,hlo,hhi]
  by_cases hth:(th.length:Int)=0
  case neg=>
   obtain rfl:z=false:=by rw[←hz,hnm,v8];exact y7 a7
   simp only[go_sem,r0 k3,k1,k2,j6,hlo,hhi,hth]
  by_cases hel:(el.length:Int)=0
  case neg=>
   obtain rfl:z=false:=by rw[←hz,hnm,v8];exact y7 a7
   simp only[go_sem,r0 k3,k1,k2,j6,hlo,hhi,hth,hel]
  obtain rfl:z=true:=by rw[←hz,hnm,v8];exact D3 a7
  simp only[go_sem,r0 k3,k1,k2,j6,hlo,hhi,hth,hel]
 by_cases k4:kind=4
 ·rw[if_neg k1,if_neg k2,if_neg k3,if_pos k4] at hz
  simp only[go_sem,r0 k4,k1,k2,k3]
  refine aj ab (fun s β ds w h=>h.1.2) rfl (by simp only[go_sem];exact bN ho name false) (by simp only[go_sem];rfl) ?_
  rintro _ rfl
  cases hnm:aM false name
  ·obtain rfl:z=false:=by rw[←hz];simp[hnm]
   simp only[go_sem,r0 k4,k1,k2,k3]
  have e0:(0:Int)≤(e.length:Int):=a7
  by_cases hlo:(e.length:Int)<1
  ·obtain rfl:z=false:=by rw[←hz,hnm,v8];exact y7 a7
   simp only[go_sem,r0 k4,k1,k2,k3,j6,hlo]
  by_cases hhi:(1:Int)<(e.length:Int)
  ·obtain rfl:z=false:=by rw[←hz,hnm,v8];exact y7 a7
   simp only[go_sem,r0 k4,k1,k2,k3,j6,hlo,hhi]
  obtain rfl:z=true:=by rw[←hz,hnm,v8];exact D3 a7
  simp only[go_sem,r0 k4,k1,k2,k3,j6,hlo,hhi]
 by_cases k5:kind=5
 ·rw[if_neg k1,if_neg k2,if_neg k3,if_neg k4,if_pos k5] at hz
  simp only[go_sem,r0 k5,k1,k2,k3,k4]
  refine aj ab (fun s β ds w h=>h.1.2) rfl (by simp only[go_sem];exact bN ho name false) (by simp only[go_sem];rfl) ?_
  rintro _ rfl
  cases hnm:aM false name
  ·obtain rfl:z=false:=by rw[←hz];simp[hnm]
   simp only[go_sem,r0 k5,k1,k2,k3,k4]
  have e0:(0:Int)≤(e.length:Int):=a7
  by_cases hlo:(e.length:Int)<1
  ·obtain rfl:z=false:=by rw[←hz,hnm,v8];exact y7 a7
   simp only[go_sem,r0 k5,k1,k2,k3,k4,j6,hlo]
  by_cases hhi:(1:Int)<(e.length:Int)
  ·obtain rfl:z=false:=by rw[←hz,hnm,v8];exact y7 a7
   simp only[go_sem,r0 k5,k1,k2,k3,k4,j6,hlo,hhi]
  by_cases hel:(el.length:Int)=0
  case neg=>
   obtain rfl:z=false:=by rw[←hz,hnm,v8];exact y7 a7
   simp only[go_sem,r0 k5,k1,k2,k3,k4,j6,hlo,hhi,hel]
  obtain rfl:z=true:=by rw[←hz,hnm,v8];exact D3 a7
  simp only[go_sem,r0 k5,k1,k2,k3,k4,j6,hlo,hhi,hel]
 by_cases k6:kind=6
 ·rw[if_neg k1,if_neg k2,if_neg k3,if_neg k4,if_neg k5,if_pos k6] at hz
  simp only[go_sem,r0 k6,k1,k2,k3,k4,k5]
  refine aj ab (fun s β ds w h=>h.1.2) rfl (by simp only[go_sem];exact bN ho name true) (by simp only[go_sem];rfl) ?_
  rintro _ rfl
  cases hnm:aM true name
  ·obtain rfl:z=false:=by rw[←hz];simp[hnm]
   simp only[go_sem,r0 k6,k1,k2,k3,k4,k5]
  have e0:(0:Int)≤(e.length:Int):=a7
  have hlo:¬(e.length:Int)<0:=a7
  by_cases hhi:(6:Int)<(e.length:Int)
  ·obtain rfl:z=false:=by rw[←hz,hnm,v8];exact y7 a7
   simp only[go_sem,r0 k6,k1,k2,k3,k4,k5,j6,hlo,hhi]
  by_cases hth:(th.length:Int)=0
  case neg=>
   obtain rfl:z=false:=by rw[←hz,hnm,v8];exact y7 a7
   simp only[go_sem,r0 k6,k1,k2,k3,k4,k5,j6,hlo,hhi,hth]
  by_cases hel:(el.length:Int)=0
  case neg=>
   obtain rfl:z=false:=by rw[←hz,hnm,v8];exact y7 a7
   simp only[go_sem,r0 k6,k1,k2,k3,k4,k5,j6,hlo,hhi,hth,hel]
  obtain rfl:z=true:=by rw[←hz,hnm,v8];exact D3 a7
  simp only[go_sem,r0 k6,k1,k2,k3,k4,k5,j6,hlo,hhi,hth,hel]
 by_cases k7:kind=7
 ·rw[if_neg k1,if_neg k2,if_neg k3,if_neg k4,if_neg k5,if_neg k6,if_pos k7] at hz
  simp only[go_sem,r0 k7,k1,k2,k3,k4,k5,k6]
  refine aj ab (fun s β ds w h=>h.1.2) rfl (by simp only[go_sem];exact bN ho name false) (by simp only[go_sem];rfl) ?_
  rintro _ rfl
  cases hnm:aM false name
  ·obtain rfl:z=false:=by rw[←hz];simp[hnm]
   simp only[go_sem,r0 k7,k1,k2,k3,k4,k5,k6]
  have e0:(0:Int)≤(e.length:Int):=a7
  have hlo:¬(e.length:Int)<0:=a7
  by_cases hhi:(1:Int)<(e.length:Int)
  ·obtain rfl:z=false:=by rw[←hz,hnm,v8];exact y7 a7
   simp only[go_sem,r0 k7,k1,k2,k3,k4,k5,k6,j6,hlo,hhi]
  by_cases hth:(th.length:Int)=0
  case neg=>
   obtain rfl:z=false:=by rw[←hz,hnm,v8];exact y7 a7
   simp only[go_sem,r0 k7,k1,k2,k3,k4,k5,k6,j6,hlo,hhi,hth]
  by_cases hel:(el.length:Int)=0
  case neg=>
   obtain rfl:z=false:=by rw[←hz,hnm,v8];exact y7 a7
   simp only[go_sem,r0 k7,k1,k2,k3,k4,k5,k6,j6,hlo,hhi,hth,hel]
  obtain rfl:z=true:=by rw[←hz,hnm,v8];exact D3 a7
  simp only[go_sem,r0 k7,k1,k2,k3,k4,k5,k6,j6,hlo,hhi,hth,hel]
 obtain rfl:z=false:=by rw[←hz];simp[k1,k2,k3,k4,k5,k6,k7]
 simp only[go_sem,k1,k2,k3,k4,k5,k6,k7]
end
section
attribute [local congr] Go.Am.ite_cc
open Go Go.Am Go.Asm
open Go.Src (cw aM ol oq jw dG iF dj ee fB dE szE bC szS bt Ex Stm)
theorem uG {o:bF} (ho:gv o):∀(N:Nat) (l:List Stm) (lv:Nat),bt l≤N→N≤1000000000→lv≤25→bj Tryz.prog 3 o 54 [jp l,iv .i64 lv] (· = bv (dj lv l)):=by
 intro N
 induction N using Nat.strongRecOn with
 |ind N ih=>
 intro l lv hsz hN hlv
 refine ap 0 3 o ae mixed Tryz.func54 rfl b9 [.tmp 4] rfl c9 c9 (by simp[Tryz.ntmps54]) fun b₀ β0 s0 w0 g=>?_
 obtain⟨z,hz⟩:∃z,dj lv l=z:=⟨_,rfl⟩
 rw[hz]
 have hll:=Src.DT l
 have hwl:=am (k:=lv) a7
 unfold jp
 by_cases hbad:0<l.length∧24<lv
 ·have h1:(0:Int)<(l.length:Int):=a7
  have h2:(24:Int)<(lv:Int):=a7
  obtain rfl:z=false:=by
   rw[←hz]
   cases l with
   |nil=>simp at hbad
   |cons e l=>
     obtain⟨kind,name,e,th,el⟩:=e
     have:¬lv≤24:=a7
     simp[dj,iF,this]
  simp only[go_sem,j6,h1,h2]
 by_cases hl0:l=[]
 ·subst hl0
  obtain rfl:z=true:=by rw[←hz];simp[dj]
  simp only[go_sem,j8,v7]
  refine ak (fun m st=>m=0∧st.f 14=.one (.d (.sl []))∧st.f 15=iv .i64 0∧st.f 16=iv .i64 0) 0 ?_ ?_
  ·simp only[go_sem]
  rintro m f g1 ob1 ⟨rfl,q14,q15,q16⟩
  simp only at q14 q15 q16
  simp only[go_sem,q14,q15,q16]
 have hlp:0<l.length:=N0.2 hl0
 have hc:(0:Int)<(l.length:Int):=a7
 have hc2:¬(24:Int)<(lv:Int):=a7
 simp only[go_sem,j6,hc,hc2]
 refine ak (fun m st=>∃k:Nat,m+k=l.length∧(l.take k).all (iF lv)=true∧st.f 1=iv .i64 lv∧st.f 14=.one (.d (.sl (l.map smD)))∧st.f 15=iv .i64 l.length∧st.f 16=iv .i64 k) l.length ?_ ?_
 ·refine⟨0,rfl,a8,?_⟩
  simp only[go_sem]
 rintro m f g1 ob1 ⟨k,hk,hall,q1,q14,q15,q16⟩
 simp only at q1 q14 q15 q16
 have hw:=am (k:=k) a7
 by_cases hlt:k<l.length
 case neg=>
  have hki:¬(k:Int)<(l.length:Int):=a7
  obtain rfl:k=l.length:=a7
  rw[l6 (l4 _)] at hall
  obtain rfl:z=true:=by rw[←hz,Src.wW];exact hall
  simp only[go_sem,q15,q16,hki]
 have hki:(k:Int)<(l.length:Int):=a7
 have hk0:(0:Int)≤(k:Int):=a7
 obtain⟨e,he⟩:=getq hlt
 obtain⟨kind,name,es,th,el⟩:=e
 have hszk:=Src.GV (l8 he)
 rw[szS] at hszk
 have hE:smD (.mk kind name es th el)=[.int .i64 kind,.str name,.sl (es.map exD),.sl (th.map smD),.sl (el.map smD)]:=by simp only[smD,aX,fk]
 have hF:=xQ ho (.mk kind name es th el)
 have hX:=uF ho (bC es) es (lv+1) (l4 _) a7 a7
 have hT:=ih (bt th) a7 th (lv+1) (l4 _) a7 a7
 have hL:=ih (bt el) a7 el (lv+1) (l4 _) a7 a7
 unfold smV at hF
 unfold iV at hX
 unfold jp at hT hL
 rw[hE] at hF
 simp only[l7,v7] at hF
 have hl24:lv≤24:=a7
 simp only[go_sem,q1,q14,q15,q16,hki,hk0,he,hE]
 refine aj ab (fun s β ds w h=>h.1.2) rfl (by simp only[go_sem];exact hF) (by simp only[go_sem];rfl) ?_
 rintro _ rfl
 cases hf:oq kind name es.length th.length el.length
 ·obtain rfl:z=false:=by rw[←hz,Src.wW];exact Src.all_false he (by simp[iF,hf])
  simp only[go_sem,hf]
 simp only[go_sem,q1,hwl]
 refine aj ab (fun s β ds w h=>h.1.2) rfl (by simp only[go_sem,q1,hwl];exact hX) (by simp only[go_sem];rfl) ?_
 rintro _ rfl
 cases hr:dG (lv+1) es
 ·obtain rfl:z=false:=by rw[←hz,Src.wW];exact Src.all_false he (by simp[iF,hf,hr])
  simp only[go_sem]
 simp only[go_sem,q1,hwl]
 refine aj ab (fun s β ds w h=>h.1.2) rfl (by simp only[go_sem,q1,hwl];exact hT) (by simp only[go_sem];rfl) ?_
 rintro _ rfl
 cases ht:dj (lv+1) th
 ·obtain rfl:z=false:=by rw[←hz,Src.wW];exact Src.all_false he (by simp[iF,hf,hr,ht])
  simp only[go_sem]
 simp only[go_sem,q1,hwl]
 refine aj ab (fun s β ds w h=>h.1.2) rfl (by simp only[go_sem,q1,hwl];exact hL) (by simp only[go_sem];rfl) ?_
 rintro _ rfl
 cases hel:dj (lv+1) el
 ·obtain rfl:z=false:=by rw[←hz,Src.wW];exact Src.all_false he (by simp[iF,hf,hr,ht,hel])
  simp only[go_sem]
 ·simp only[go_sem,q16,hw]
  refine ai (m-1) a7 ⟨k+1,a7,Src.OB hall he (by simp[iF,hf,hr,ht,hel,hl24]),?_⟩
  simp only[go_sem,q1,q14,q15]
def szP (p:Src.Prog):Nat:=p.vars.length+p.arrays.length+p.funcs.length+(p.funcs.map fun f=>f.params.length+f.locals.length+bt f.body).sum
theorem mr {p:Src.Prog}{f:Src.Fn} (h:f∈p.funcs):f.params.length+f.locals.length+bt f.body≤szP p:=by
 have:∀l:List Src.Fn,f∈l→f.params.length+f.locals.length+bt f.body≤(l.map fun f=>f.params.length+f.locals.length+bt f.body).sum:=by
  intro l
  induction l with
  |nil=>intro h;cases h
  |cons x l ih=>
    intro h
    rw[l7,E6]
    rcases x8.1 h with rfl|h
    ·omega
    ·have:=ih h;omega
 have:=this _ h
 unfold szP
 omega
theorem zf {o:bF} (ho:gv o) (p:Src.Prog) (hsz:szP p≤1000000000):bj Tryz.prog 3 o 29 [ep p] (· = bv (dE p)):=by
 refine ap 0 3 o ae mixed Tryz.func29 rfl b9 [.tmp 2] rfl c9 c9 (by simp[Tryz.ntmps29]) fun b₀ β0 s0 w0 g=>?_
 obtain⟨z,hz⟩:∃z,dE p=z:=⟨_,rfl⟩
 rw[hz]
 obtain⟨vs,ars,fs⟩:=p
 have hszp:=hsz
 unfold szP at hsz
 simp only at hsz
 unfold dE at hz
 simp only at hz
 unfold ep iO
 by_cases h1:fs.length<1
 ·have h1i:(fs.length:Int)<1:=a7
  obtain rfl:z=false:=by rw[←hz];simp;omega
  simp only[go_sem,j6,h1i]
 have h1i:¬(fs.length:Int)<1:=a7
 by_cases h2:64<fs.length
 ·have h2i:(64:Int)<(fs.length:Int):=a7
  obtain rfl:z=false:=by rw[←hz];simp;omega
  simp only[go_sem,j6,h1i,h2i]
 have h2i:¬(64:Int)<(fs.length:Int):=a7
 have hA:=nh ho vs a7
 unfold jo at hA
 simp only[go_sem,j6,h1i,h2i]
 refine aj ab (fun s β ds w h=>h.1.2) rfl (by simp only[go_sem];exact hA) (by simp only[go_sem];rfl) ?_
 rintro _ rfl
 cases hv:vs.all cw
 ·obtain rfl:z=false:=by rw[←hz];simp[hv]
  simp only[go_sem]
 simp only[go_sem,j6]
 refine ak (fun m st=>∃k:Nat,m+k=ars.length∧(ars.take k).all fB=true∧st.f 1=.one (.ptr 1 (st.gen 1) 0)∧st.obj 1=some [.d (.sl (vs.map fun s=>[.str s])),.d (.sl (ars.map arD)),.d (.sl (fs.map fnD))]∧st.f 24=.one (.d (.sl (ars.map arD)))∧st.f 25=iv .i64 ars.length∧st.f 26=iv .i64 k) ars.length ?_ ?_
 ·refine⟨0,rfl,a8,?_⟩
  simp only[go_sem]
 clear g
 rintro m f g ob ⟨k,hk,hall,q1,o1,q24,q25,q26⟩
 simp only at q1 o1 q24 q25 q26
 have hw:=am (k:=k) a7
 by_cases hlt:k<ars.length
 ·have hki:(k:Int)<(ars.length:Int):=a7
  have hk0:(0:Int)≤(k:Int):=a7
  obtain⟨⟨nm,sz⟩,he⟩:=getq hlt
  simp only[go_sem,q1,o1,q24,q25,q26,hki,hk0,he,arD]
  refine aj ab (fun s β ds w h=>h.1.2) rfl (by simp only[go_sem];exact kI ho nm) (by simp only[go_sem];rfl) ?_
  rintro _ rfl
  cases hb:cw nm
  ·obtain rfl:z=false:=by rw[←hz,Src.all_false (p:=fB) he (by simp[fB,hb])];simp
   simp only[go_sem]
  by_cases hs1:sz<1
  ·obtain rfl:z=false:=by rw[←hz,Src.all_false (p:=fB) he (by simp[fB,hb];omega)];simp
   simp only[go_sem,hs1]
  by_cases hs2:4096<sz
  ·obtain rfl:z=false:=by rw[←hz,Src.all_false (p:=fB) he (by simp[fB,hb];omega)];simp
   simp only[go_sem,hs1,hs2]
  simp only[go_sem,hs1,hs2,q26,hw]
  refine ai (m-1) a7 ⟨k+1,a7,Src.OB hall he (by simp[fB,hb];omega),?_⟩
  simp only[go_sem,q1,o1,q24,q25]
 have hki:¬(k:Int)<(ars.length:Int):=a7
 obtain rfl:k=ars.length:=a7
 rw[l6 (l4 _)] at hall
 simp only[go_sem,q1,o1,q25,q26,hki,j6]
 refine ak (fun m st=>∃k:Nat,m+k=fs.length∧(fs.take k).all ee=true∧st.f 46=.one (.d (.sl (fs.map fnD)))∧st.f 47=iv .i64 fs.length∧st.f 48=iv .i64 k) fs.length ?_ ?_
 ·refine⟨0,rfl,a8,?_⟩
  simp only[go_sem]
 clear q1 o1 q24 q25 q26 hlt hki hw hk
 rintro m f g ob ⟨k,hk,hallF,q46,q47,q48⟩
 simp only at q46 q47 q48
 have hw:=am (k:=k) a7
 by_cases hlt:k<fs.length
 case neg=>
  have hki:¬(k:Int)<(fs.length:Int):=a7
  obtain rfl:k=fs.length:=a7
  rw[l6 (l4 _)] at hallF
  obtain rfl:z=true:=by rw[←hz,hall,hallF,hv,D3 (show 1≤fs.length∧fs.length≤64 by omega)];rfl
  simp only[go_sem,q47,q48,hki]
 have hki:(k:Int)<(fs.length:Int):=a7
 have hk0:(0:Int)≤(k:Int):=a7
 obtain⟨x,he⟩:=getq hlt
 have hszf:=mr (p:=⟨vs,ars,fs⟩) (l8 he)
 obtain⟨nm,ps,ls,w,body⟩:=x
 simp only at hszf
 have hAp:=nh ho ps a7
 have hAl:=nh ho ls a7
 have hB:=uG ho (bt body) body 1 (l4 _) a7 a7
 unfold jo at hAp hAl
 unfold jp at hB
 have hfl:∀{y:Bool},ee ⟨nm,ps,ls,w,body⟩=y→y=false→z=false:=fun h1 h2=>by rw[←hz,Src.all_false (p:=ee) he (by rw[h1,h2])];simp
 simp only[go_sem,q46,q47,q48,hki,hk0,he,fnD]
 refine aj ab (fun s β ds w h=>h.1.2) rfl (by simp only[go_sem];exact kI ho nm) (by simp only[go_sem];rfl) ?_
 rintro _ rfl
 cases hb:cw nm
 ·obtain rfl:=hfl rfl (by simp[ee,hb])
  simp only[go_sem]
 by_cases hp6:6<ps.length
 ·have hp6i:(6:Int)<(ps.length:Int):=a7
  obtain rfl:=hfl rfl (by simp[ee,hb];omega)
  simp only[go_sem,j6,hp6i]
 have hp6i:¬(6:Int)<(ps.length:Int):=a7
 have hp6':ps.length≤6:=a7
 simp only[go_sem,j6,hp6i]
 refine aj ab (fun s β ds w h=>h.1.2) rfl (by simp only[go_sem];exact hAp) (by simp only[go_sem];rfl) ?_
 rintro _ rfl
 cases hb2:ps.all cw
 ·obtain rfl:=hfl rfl (by simp only[ee,hb,hp6',hb2];simp)
  simp only[go_sem]
 simp only[go_sem]
 refine aj ab (fun s β ds w h=>h.1.2) rfl (by simp only[go_sem];exact hAl) (by simp only[go_sem];rfl) ?_
 rintro _ rfl
 cases hb3:ls.all cw
 ·obtain rfl:=hfl rfl (by simp only[ee,hb,hp6',hb2,hb3];simp)
  simp only[go_sem]
 simp only[go_sem]
 refine aj ab (fun s β ds w h=>h.1.2) rfl (by simp only[go_sem];exact hB) (by simp only[go_sem];rfl) ?_
 rintro _ rfl
 cases hb4:dj 1 body
 ·obtain rfl:=hfl rfl (by simp only[ee,hb,hp6',hb2,hb3,hb4];simp)
  simp only[go_sem]
 simp only[go_sem,q48,hw]
 refine ai (m-1) a7 ⟨k+1,a7,Src.OB hallF he (by simp only[ee,hb,hp6',hb2,hb3,hb4];simp),?_⟩
 simp only[go_sem,q46,q47]
end
end Go.Proofs.YtlglgadejgdpcaaGreatDoor
namespace Go.Src
section
open Go.Asm (Str digit letter il fX)
section
def PR.Sz {α:Type} (sz:α→Nat) (x n:Nat) (p:PR α):Prop:=∀a m,p=.ok a m→sz a+n≤x+m
theorem PR.bind_sz {α β:Type}{sa:α→Nat}{sb:β→Nat}{x y n:Nat}{p:PR α}{f:α→Nat→PR β} (h:p.Sz sa x n) (h':∀a m,(f a m).Sz sb (sa a+y) m):(p.bind f).Sz sb (x+y) n:=by
 intro b m hb
 cases p with
 |ok a k=>
   have h1:=h a k rfl
   have h2:=h' a k b m hb
   omega
 |no k=>cases hb
variable {k n:Nat}{α:Type}{s:Str}{sa:α→Nat}
theorem PR.sz_no{x n m:Nat}:(PR.no m:PR α).Sz sa x n:=fun _ _ e=>by cases e
theorem PR.sz_ok{x n m:Nat}{a:α} (h:sa a+n≤x+m):(PR.ok a m).Sz sa x n:=fun b k e=>by cases e;exact h
theorem PR.Sz.of{x n y m:Nat}{p:PR α} (h:p.Sz sa x n) (hy:x+m≤y+n):p.Sz sa y m:=fun a k e=>by have:=h a k e;omega
def z0 {α:Type} (_:α):Nat:=0
theorem wX:∀(l m:List Ex),bC (l++m)=bC l+bC m
 |[],m=>by simp[bC]
 |e::l,m=>by simp only[z6,bC,wX l m];omega
theorem wY:∀(l m:List Stm),bt (l++m)=bt l+bt m
 |[],m=>by simp[bt]
 |e::l,m=>by simp only[z6,bt,wY l m];omega
section
variable {ts:List Tok}
theorem kp:(takeN ts k n).Sz (fun _=>1) 0 n:=fun a m h=>by have:=eT a m h;show 1+n≤0+m;omega
theorem bV {l:List Str}{n:Nat}:(br ts l n).Sz (fun _=>0) 0 n:=fun a m h=>by have:=bR a m h;show 0+n≤0+m;omega
mutual
theorem fq:∀(k least n:Nat),(cj ts k least n).Sz szE 0 n
 |0,_,_=>by unfold cj;exact PR.sz_no
 |k+1,least,n=>by
   unfold cj
   exact PR.bind_sz (y:=0) (xa k n) fun a m=>wZ k least a m
theorem wZ:∀(k least:Nat) (left:Ex) (n:Nat),(fU ts k least left n).Sz szE (szE left) n
 |0,_,_,_=>by unfold fU;exact PR.sz_no
 |k+1,least,left,n=>by
   unfold fU
   split
   ·exact PR.sz_ok a7
   ·exact(PR.bind_sz (x:=0) (y:=szE left+1) (fq k _ (n+1)) fun b q=>(wZ k least _ q).of (by simp only[szE,bC];omega)).of a7
theorem xa:∀(k n:Nat),(eu ts k n).Sz szE 0 n
 |0,_=>by unfold eu;exact PR.sz_no
 |k+1,n=>by
   unfold eu
   split
   ·exact PR.bind_sz (y:=0) kp fun a m=>PR.sz_ok (by simp only[szE,bC];omega)
   split
   ·exact(PR.bind_sz (x:=0) (y:=1) bV fun a m=>PR.sz_ok (by simp only[szE,bC];omega)).of (m:=n) (y:=0) (n:=n+1) a7
   split
   ·exact(PR.bind_sz (x:=0) (y:=0) (fq k 1 (n+1)) fun a m=>(PR.bind_sz (x:=0) (y:=szE a) bV fun b q=>PR.sz_ok (sa:=szE) a7).of a7).of (m:=n) (y:=0) (n:=n+1) a7
   split
   ·exact(PR.bind_sz (x:=0) (y:=1) (xa k (n+1)) fun a m=>PR.sz_ok (by simp only[szE,bC];omega)).of (m:=n) (y:=0) (n:=n+1) a7
   refine PR.bind_sz (x:=0) (y:=0) kp fun a m=>?_
   split
   ·exact(PR.bind_sz (x:=0) (y:=1) (fq k 1 (m+1)) fun a m=>(PR.bind_sz (x:=0) (y:=szE a+1) bV fun b q=>PR.sz_ok (by simp only[szE,bC];omega)).of a7).of (n:=m+1) a7
   split
   ·exact(PR.bind_sz (x:=0) (y:=1) (xb k (m+1)) fun a m=>PR.sz_ok (by simp only[szE,bC];omega)).of (n:=m+1) a7
   ·exact PR.sz_ok (by simp only[szE,bC];omega)
theorem xb:∀(k n:Nat),(eU ts k n).Sz bC 0 n
 |0,_=>by unfold eU;exact PR.sz_no
 |k+1,n=>by
   unfold eU
   split
   ·exact PR.sz_ok (by simp only[bC];omega)
   ·exact PR.bind_sz (y:=0) (fq k 1 n) fun a m=>(xd k [a] m).of (by simp only[bC];omega)
theorem xd:∀(k:Nat) (l:List Ex) (n:Nat),(fV ts k l n).Sz bC (bC l) n
 |0,_,_=>by unfold fV;exact PR.sz_no
 |k+1,l,n=>by
   unfold fV
   split
   ·exact(PR.bind_sz (x:=0) (y:=bC l) (fq k 1 (n+1)) fun a m=>(xd k (l++[a]) m).of (by rw[wX];simp only[bC];omega)).of a7
   ·exact(PR.bind_sz (x:=0) (y:=bC l) bV fun b q=>PR.sz_ok (sa:=bC) a7).of a7
end
theorem pA:(iE ts k n).Sz bC 0 n:=
 PR.bind_sz (x:=0) (y:=0) bV fun _ m=>(PR.bind_sz (x:=0) (y:=0) (fq k 1 m) fun e m=>(PR.bind_sz (x:=0) (y:=szE e) bV fun _ _=>PR.sz_ok (by simp only[bC];omega)).of a7).of a7
theorem AR:(ij ts k n).Sz szS 0 n:=by
 unfold ij
 refine PR.bind_sz (x:=0) (y:=0) kp fun t m=>((PR.bind_sz (x:=1) (y:=0) (sa:=szS) ?_ fun s q=>(PR.bind_sz (x:=0) (y:=szS s) bV fun _ _=>PR.sz_ok (sa:=szS) a7).of (m:=q) a7).of (n:=m) (m:=m) a7)
 split
 ·exact(PR.bind_sz (x:=0) (y:=1) (fq k 1 (m+1)) fun _ _=>PR.sz_ok (by simp only[szS,bt,bC];omega)).of a7
 split
 ·exact(PR.bind_sz (x:=0) (y:=1) (fq k 1 (m+1)) fun i _=>(PR.bind_sz (x:=0) (y:=szE i+1) bV fun _ q=>(PR.bind_sz (x:=0) (y:=szE i+1) (fq k 1 q) fun _ _=>PR.sz_ok (by simp only[szS,bt,bC];omega)).of a7).of a7).of a7
 split
 ·exact(PR.bind_sz (x:=0) (y:=1) (xb k (m+1)) fun _ _=>PR.sz_ok (by simp only[szS,bt];omega)).of a7
 ·exact PR.sz_no
mutual
theorem DU:∀(k n:Nat),(iS ts k n).Sz szS 0 n
 |0,_=>by unfold iS;exact PR.sz_no
 |k+1,n=>by
   unfold iS
   split
   ·exact(PR.bind_sz (x:=0) (y:=1) pA fun e _=>(PR.bind_sz (x:=0) (y:=bC e+1) bV fun _ _=>PR.sz_ok (by simp only[szS,bt];omega)).of a7).of (n:=n+1) a7
   split
   ·split
    ·exact PR.sz_ok (by simp only[szS,bt,bC];omega)
    ·exact(PR.bind_sz (x:=0) (y:=1) (fq k 1 (n+1)) fun e _=>(PR.bind_sz (x:=0) (y:=szE e+1) bV fun _ _=>PR.sz_ok (by simp only[szS,bt,bC];omega)).of a7).of (n:=n+1) a7
   split
   ·refine(PR.bind_sz (x:=0) (y:=1) pA fun e m=>(PR.bind_sz (x:=0) (y:=bC e+1) (rT k m) fun th q=>?_).of a7).of (n:=n+1) a7
    split
    ·exact(PR.bind_sz (x:=0) (y:=bt th+bC e+1) (rT k (q+1)) fun _ _=>PR.sz_ok (by simp only[szS];omega)).of a7
    ·exact PR.sz_ok (by simp only[szS,bt];omega)
   split
   ·exact(PR.bind_sz (x:=0) (y:=1) pA fun e m=>(PR.bind_sz (x:=0) (y:=bC e+1) (rT k m) fun _ _=>PR.sz_ok (by simp only[szS,bt];omega)).of a7).of (n:=n+1) a7
   ·exact AR
theorem rT:∀(k n:Nat),(gN ts k n).Sz bt 0 n
 |0,_=>by unfold gN;exact PR.sz_no
 |k+1,n=>by
   unfold gN
   exact PR.bind_sz (x:=0) (y:=0) bV fun _ m=>(pC k [] m).of (by simp only[bt];omega)
theorem pC:∀(k:Nat) (l:List Stm) (n:Nat),(ct ts k l n).Sz bt (bt l) n
 |0,_,_=>by unfold ct;exact PR.sz_no
 |k+1,l,n=>by
   unfold ct
   split
   ·exact PR.sz_ok a7
   ·exact(PR.bind_sz (x:=0) (y:=bt l) (DU k n) fun a m=>(pC k _ m).of (by rw[wY];simp only[bt];omega)).of a7
end
theorem xe:∀{k:Nat}{l:List Fn}{n:Nat},(kZ ts k l n).In ts.length n
 |0,_,_=>by unfold kZ;exact PR.in_no
 |k+1,l,n=>by
   unfold kZ
   split
   ·exact PR.bind_in zC fun _ _=>xe
   ·exact PR.in_here
theorem DV:(lf ts k n).In ts.length n:=PR.bind_in rR fun _ _=>PR.bind_in zC fun _ _=>PR.bind_in xe fun _ _=>PR.in_here
theorem pD:(dD ts k n).Sz List.length 0 n:=fun a m h=>by have:=yu h;omega
theorem rU:∀{k:Nat}{l:List Str}{n:Nat},(cP ts k l n).Sz List.length l.length n
 |0,_,_=>by unfold cP;exact PR.sz_no
 |k+1,l,n=>by
   unfold cP
   split
   ·exact(PR.bind_sz (x:=0) (y:=l.length) (sa:=List.length) pD fun m q=>(PR.bind_sz (x:=0) (y:=m.length+l.length) bV fun _ _=>rU.of (by simp only[j5];omega)).of (m:=q) a7).of (n:=n+1) a7
   ·exact PR.sz_ok a7
def szF (f:Fn):Nat:=f.params.length+f.locals.length+bt f.body
theorem zD:(lm ts k n).Sz (fun f=>szF f+1) 0 n:=by
 unfold lm
 refine PR.bind_sz (x:=0) (y:=0) bV fun _ m=>(PR.bind_sz (x:=0) (y:=0) kp fun t m=>(PR.bind_sz (x:=0) (y:=1) bV fun _ m=>(PR.bind_sz (x:=0) (y:=1) (sa:=List.length) ?_ fun ps m=>(PR.bind_sz (x:=0) (y:=ps.length+1) bV fun _ m=>?_).of (n:=m) (m:=m) a7).of (n:=m) (m:=m) a7).of (m:=m) a7).of (m:=m) a7
 ·split
  ·exact pD
  ·exact PR.sz_ok (m:=m) a8
 ·have hb:∀v,((br ts [[123]] v).bind fun _ m'=>(cP ts k [] m').bind fun ls m'=>(ct ts k [] m').bind fun b m'=>(PR.ok (Fn.mk t.text ps ls (decide (az ts m=[119,111,114,100])) b) m')).Sz (fun f=>szF f+1) (ps.length+1) v:=fun v=>
   (PR.bind_sz (x:=0) (y:=ps.length+1) bV fun _ m'=>(PR.bind_sz (x:=0) (y:=ps.length+1) (rU (l:=[])) fun ls m'=>(PR.bind_sz (x:=0) (y:=ls.length+ps.length+1) (pC k [] m') fun b m'=>PR.sz_ok (by simp only[szF];omega)).of (m:=m') a7).of (m:=m') a7).of a7
  split
  ·exact(hb (m+1)).of a7
  ·exact(hb m).of a7
theorem rV:∀{k:Nat}{l:List Str}{ars:List (Str×Int)}{n:Nat},(kY ts k l ars n).Sz (fun h=>h.1.length+h.2.length) (l.length+ars.length) n
 |0,_,_,_=>by unfold kY;exact PR.sz_no
 |k+1,l,ars,n=>by
   unfold kY
   split
   ·exact(PR.bind_sz (x:=0) (y:=l.length+ars.length) (sa:=List.length) pD fun m q=>(PR.bind_sz (x:=0) (y:=m.length+l.length+ars.length) bV fun _ _=>rV.of (by simp only[j5];omega)).of (m:=q) a7).of (n:=n+1) a7
   split
   ·exact(PR.bind_sz (x:=0) (y:=l.length+ars.length) kp fun t m=>(PR.bind_sz (x:=0) (y:=l.length+ars.length+1) bV fun _ m=>(PR.bind_sz (x:=0) (y:=l.length+ars.length+1) kp fun z m=>(PR.bind_sz (x:=0) (y:=l.length+ars.length+2) bV fun _ m=>(PR.bind_sz (x:=0) (y:=l.length+ars.length+2) bV fun _ m=>
     rV.of (m:=m) (by simp only[j5,J4];omega)).of (m:=m) a7).of (m:=m) a7).of (m:=m) a7).of (m:=m) a7).of (n:=n+1) a7
   ·exact PR.sz_ok (by simp only;omega)
def xf (l:List Fn):Nat:=l.length+(l.map szF).sum
theorem DW (l:List Fn) (f:Fn):xf (l++[f])=xf l+szF f+1:=by simp[xf];omega
theorem xg:∀{k:Nat}{l:List Fn}{n:Nat},(kZ ts k l n).Sz xf (xf l) n
 |0,_,_=>by unfold kZ;exact PR.sz_no
 |k+1,l,n=>by
   unfold kZ
   split
   ·exact(PR.bind_sz (x:=0) (y:=xf l) zD fun f m=>xg.of (m:=m) (by rw[DW];omega)).of (m:=n) a7
   ·exact PR.sz_ok a7
def szP (p:Prog):Nat:=p.vars.length+p.arrays.length+xf p.funcs
theorem DX:(lf ts k n).Sz szP 0 n:=
 (PR.bind_sz (x:=0) (y:=0) rV fun h m=>(PR.bind_sz (x:=0) (y:=h.1.length+h.2.length) zD fun f m=>(PR.bind_sz (x:=szF f+1) (y:=h.1.length+h.2.length) (xg.of (m:=m) (by simp[xf];omega)) fun fs m=>PR.sz_ok (by simp only[szP];omega)).of (m:=m) a7).of (m:=m) a7).of (m:=n) a8
end
theorem yv{kd v:Nat}{t:Str} (h:firstT s=.ok (kd,t,v)):v≤4294967295:=by
 unfold firstT at h
 split at h
 ·cases h
 ·split at h
  ·split at h
   ·cases h
   ·cases h;omega
  split at h
  ·split at h
   ·split at h
    ·rename_i hx;cases h;omega
    ·cases h
   ·cases h
  split at h
  ·split at h
   ·cases h
   split at h <;> (cases h;omega)
  ·split at h
   ·cases h;omega
   ·cases h
theorem mD:∀{n k:Nat}{s:Str}{l:List Tok}{p:Nat},qa n k s=(.ok l,p)→l.length≤n∧∀t∈l,t.num≤4294967295
 |0,_,_,_,_,h=>by unfold qa at h;cases h;simp
 |_+1,_,[],_,_,h=>by unfold qa at h;cases h;simp
 |n+1,k,c::r,l,p,h=>by
   unfold qa at h
   split at h
   ·have:=mD h;exact⟨a7,this.2⟩
   split at h
   ·have:=mD h;exact⟨a7,this.2⟩
   split at h
   ·cases h
   ·rename_i kd t v hf
    split at h
    ·rename_i l' p' hl
     cases h
     have:=mD hl
     refine⟨by simp;omega,fun x hx=>?_⟩
     rcases x8.1 hx with rfl|hx
     ·exact yv hf
     ·exact this.2 x hx
    ·cases h
theorem DY:(pp s).1.length≤20001∧∀t∈(pp s).1,t.num≤4294967295:=by
 unfold pp
 split
 ·simp
 ·split
  ·rename_i h
   have:=mD h
   exact⟨by simp only;omega,this.2⟩
  ·simp
def kf (ts:List Tok) (fin n:Nat):Nat:=match ts[n]? with|some t=>t.place|none=>fin
def Rt (s:Str):R Prog×Nat:=
 if (pp s).2.2≠0 then(.err (pp s).2.2,(pp s).2.1)
 else match lf (pp s).1 (4*(pp s).1.length+7) 0 with
  |.ok p m=>if m<(pp s).1.length then(.err 3,kf (pp s).1 s.length m) else(.ok p,0)
  |.no m=>(.err 3,kf (pp s).1 s.length m)
theorem Il{k m:Nat}{p:Prog} (h:lf (pp s).1 k 0=.ok p m):szP p≤20001:=by
 have h1:=DX p m h
 have h2:m≤max 0 (pp s).1.length:=DV p m h
 have h3:=DY (s:=s)
 omega
end
end
end Go.Src

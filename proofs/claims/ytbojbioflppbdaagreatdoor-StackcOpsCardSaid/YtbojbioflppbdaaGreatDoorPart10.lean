/- A part of the proof; no conditions. -/
import Derived.Test.YtbojbioflppbdaaGreatDoorPart9
set_option linter.unusedSimpArgs false
set_option linter.unusedVariables false
set_option maxHeartbeats 64000000
set_option maxRecDepth 100000
namespace Go.Proofs.YtbojbioflppbdaaGreatDoor
section
open Go Go.Am Go.Asm
open Go.Src (PR du aD takeN bA Ex Stm cC gf eN fj gg)
section
variable {α:Type}{B:Nat}{g:Nat→Nat}
section
variable {b₀:Bs}{rd:Option Nat}{Φ:St→Am.Loc→List Deferred→World→Prop}{B0:Nat}{Ψ:fP}{o:Oper}{s:St}{K:St→Prop}{k:Box K}{args:Array Operand}{tys:Array TypeId}
theorem tN (ts:List Src.Tok) (n fin:Nat) (hΦ:aW b₀ Φ) (ho:o.op=.call ⟨.value (.func 58),args,tys⟩) (hx:args.toList.map s.ev=[.one (.ptr 125 (s.gen 125) 0)]) (hob:s.obj 125=some (rdC ts n fin)) (hk:K (s.put o.dst (iv .i64 (du ts n:Nat)))):bi (spF Tryz.prog rd b₀ Φ B0 Ψ) o s k:=by
 refine kp hΦ ho (by rw[hx];exact Dd hob) ?_
 rintro _ g1 ob1 ⟨rfl,rfl,rfl⟩
 exact hk
theorem AO (ts:List Src.Tok) (n fin:Nat) (hΦ:aW b₀ Φ) (ho:o.op=.call ⟨.value (.func 57),args,tys⟩) (hx:args.toList.map s.ev=[.one (.ptr 125 (s.gen 125) 0)]) (Bc:Nat) (hB:200≤Bc) (hfree:∀i,Bc≤i→s.obj i=none) (hob:s.obj 125=some (rdC ts n fin)) (hk:K (s.put o.dst (sv (aD ts n)))):bi (spF Tryz.prog rd b₀ Φ B0 Ψ) o s k:=by
 refine kp hΦ ho (by rw[hx];exact xY hB hfree hob) ?_
 rintro _ g1 ob1 ⟨rfl,rfl,rfl⟩
 exact hk
theorem bP (ts:List Src.Tok) (n fin:Nat) (str:Str) (hΦ:aW b₀ Φ) (ho:o.op=.call ⟨.value (.func 36),args,tys⟩) (hx:args.toList.map s.ev=[.one (.ptr 125 (s.gen 125) 0),sv str]) (Bc:Nat) (hB:200≤Bc) (hfree:∀i,Bc≤i→s.obj i=none) (hob:s.obj 125=some (rdC ts n fin)) (hn:n≤1000000)
  (hy:aD ts n=str→K (St.put ⟨s.f,s.gen,upd s.obj 125 (some (rdC ts (n+1) fin))⟩ o.dst (bv true))) (hz:aD ts n≠str→K (s.put o.dst (bv false))):bi (spF Tryz.prog rd b₀ Φ B0 Ψ) o s k:=by
 refine kp hΦ ho (by rw[hx];exact Oq hB hfree hob hn str) ?_
 rintro _ g1 ob1 ⟨rfl,⟨h,rfl,rfl⟩|⟨h,rfl,rfl⟩⟩
 ·exact hy h
 ·exact hz h
theorem bC (ts:List Src.Tok) (n fin:Nat) (hΦ:aW b₀ Φ) (ho:o.op=.call ⟨.value (.func 39),args,tys⟩) (l:List Str) (j:Nat) (hx:args.toList.map s.ev=[.one (.ptr 125 (s.gen 125) 0),.one (.osl j (s.gen j) 1 0 l.length)]) (Bc:Nat) (hB:200≤Bc) (hfree:∀i,Bc≤i→s.obj i=none) (hob:s.obj 125=some (rdC ts n fin)) (hn:n+l.length≤1000000) (hj:j<Bc) (hj1:j≠125) (hjo:s.obj j=some (bJ l))
{ob:Obs}{p':PR α} (hin:InF B g ob s.gen s.obj) (hno:∀m,bA ts l n=.no m→p'=.no m)
  (hk:∀m,bA ts l n=.ok () m→K (St.put ⟨s.f,s.gen,upd s.obj 125 (some (rdC ts m fin))⟩ o.dst uv)):bi (spF Tryz.prog rd b₀ Φ B0 (FG B [125] g ob (NoR ts fin p' g ob))) o s k:=by
 refine bu (R:=OkR ts fin (bA ts l n) (fun _=>uv) s.gen s.obj) (Ψ0:=NoR ts fin (bA ts l n) s.gen s.obj) hΦ ho (by rw[hx];exact Kb l hB hfree hob hn hj hj1 hjo) ?_ ?_
 ·rintro ch g' ob' ⟨rfl,m,hp,hc,rfl⟩
  exact hin.rdr.pan (by simp[upd]) (hno m hp) hc
 ·rintro r g' ob' ⟨rfl,a,m,hp,rfl,rfl⟩
  exact hk m hp
theorem AP (ts:List Src.Tok) (n fin:Nat) (hΦ:aW b₀ Φ) (ho:o.op=.call ⟨.value (.func 35),args,tys⟩) (hx:args.toList.map s.ev=[.one (.ptr 125 (s.gen 125) 0)]) (hob:s.obj 125=some (rdC ts n fin))
{ob:Obs}{p':PR α} (hin:InF B g ob s.gen s.obj) (hno:p'=.no n):bi (spF Tryz.prog rd b₀ Φ B0 (FG B [125] g ob (NoR ts fin p' g ob))) o s k:=by
 refine bu (R:=fun _ _ _=>False) (Ψ0:=fun ch g' ob'=>ch=rN (kw ts fin n)∧g'=s.gen∧ob'=s.obj) hΦ ho (by rw[hx];exact uQ hob) ?_ (fun _ _ _ h=>h.elim)
 rintro ch g' ob' ⟨rfl,rfl,rfl⟩
 exact hin.pan hob hno rfl
end
instance:Inhabited Ex:=⟨.mk 0 0 0 [] []⟩
theorem look [Inhabited α] (p:PR α):∃a m,(∃a' m',p=.ok a' m')→p=.ok a m:=by
 cases p with
 |ok a m=>exact⟨a,m,fun _=>rfl⟩
 |no m=>exact⟨default,0,fun⟨_,_,h⟩=>by cases h⟩
theorem IE (p:PR α) {G:α→Prop} (a0:α) (h0:G a0) (h1:∀a m,p=.ok a m→G a):∃a m,G a∧((∃a' m',p=.ok a' m')→p=.ok a m):=by
 cases p with
 |ok a m=>exact⟨a,m,h1 a m rfl,fun _=>rfl⟩
 |no m=>exact⟨a0,0,h0,fun⟨_,_,h⟩=>by cases h⟩
theorem GA (s:Str):(Src.ud s).2.2≤9:=by
 have h:∀(c:Prop) [Decidable c] (x y:Int×Int×Nat),x.2.2≤9→y.2.2≤9→(if c then x else y).2.2≤9:=fun c _ x y hx hy=>by split <;> assumption
 unfold Src.ud
 repeat (refine h _ _ _ (by decide) ?_)
 decide
theorem Dp:(Src.ud []).2.2=0:=a8
mutual
def exD:Ex→List D
 |.mk kind op num name kids=>[.int .i64 kind,.int .i64 op,.int .u32 num,.str name,.sl (qx kids)]
def qx:List Ex→List (List D)
 |[]=>[]
 |e::l=>exD e::qx l
end
theorem bh:∀l:List Ex,qx l=l.map exD
 |[]=>by simp[qx]
 |e::l=>by simp[qx,bh l]
theorem cV (e:Ex):(exD e).length=5:=by cases e;simp[exD]
def exV (e:Ex):AV:=.agg ((exD e).map .d)
def jg (l:List Ex):AV:=.one (.d (.sl (l.map exD)))
def exC (l:List Ex):List C:=l.flatMap fun a=>(exD a).map .d
theorem GB (l:List Ex):(exC l).length=l.length*5:=by
 induction l with
 |nil=>rfl
 |cons a l ih=>simp only[exC,D1,j4,j5,cV,j6] at ih ⊢;omega
theorem mI (e:Ex):exC [e]=(exD e).map .d:=by simp[exC]
theorem GC (l m:List Ex):exC (l++m)=exC l++exC m:=by simp[exC]
theorem wl{s:St}{a b c d:D}{c5:C}{x5:D} (h:dU (B≤·) s c5 x5):eI B s [.agg [.d a,.d b,.d c,.d d,c5]] [.agg [.d a,.d b,.d c,.d d,.d x5]]:=
 ⟨_,_,rfl,.agg (xs:=[a,b,c,d,x5]) rfl (fun i e he=>by
  match i,he with
  |0,he=>cases he;exact⟨_,rfl,.d _⟩
  |1,he=>cases he;exact⟨_,rfl,.d _⟩
  |2,he=>cases he;exact⟨_,rfl,.d _⟩
  |3,he=>cases he;exact⟨_,rfl,.d _⟩
  | 4,he=>cases he;exact⟨_,rfl,h⟩),rfl⟩
theorem mJ {B id g n:Nat}{s:St}{l:List Ex} (hid:B≤id) (hg:s.gen id=g) (ho:s.obj id=some (exC l)) (hn:l.length=n):dU (B≤·) s (.osl id g 5 0 n) (.sl (qx l)):=by
 rw[bh]
 exact cg hid hg l exD ho rfl (fun a _=>cV a) hn
end
end
section
attribute [local congr] Go.Am.ite_cc
open Go Go.Am Go.Asm
open Go.Src (PR du aD takeN bA Ex Stm cC gf eN fj gg)
structure ExK (ts:List Src.Tok) (fin k:Nat):Prop where
 expr:∀(least n:Nat),1≤least→least≤100→n≤ts.length→4*(ts.length-n)+3≤k→eF 131 [iv .i64 least] ts n fin (cC ts k least n) exV
 atom:∀(n:Nat),n≤ts.length→4*(ts.length-n)+2≤k→eF 153 [] ts n fin (eN ts k n) exV
 args:∀(n:Nat),n≤ts.length→4*(ts.length-n)+4≤k→eF 155 [] ts n fin (fj ts k n) jg
theorem Kf {ts:List Src.Tok}{fin k n:Nat} (hl:ts.length≤100000) (ih:ExK ts fin k) (hnl:n≤ts.length) (hk:4*(ts.length-n)+2≤k+1):eF 153 [] ts n fin (eN ts (k+1) n) exV:=by
 intro B g ob hB hf ho
 refine al B [125] ac mixed Tryz.func153 rfl b9 [.cell 2 44] rfl c8 c8 (by simp[Tryz.ntmps153]) (by simp;omega) hf fun b₀ β0 s0 w0=>?_
 have n1:=nlo hB
 have n2:=nhi hB
 have hin:InF B g ob g ob:=InF.refl
 have hf1:=hf
 obtain⟨p,hp⟩:∃p,eN ts (k+1) n=p:=⟨_,rfl⟩
 rw[hp]
 rw[eN] at hp
 simp only[go_sem,n1,n2]
 refine tN ts n fin aa rfl (by simp only[go_sem,n1,n2]) (by simp only[go_sem,n1,n2,ho]) ?_
 by_cases h2:du ts n=2
 ·rw[if_pos h2] at hp
  have h2i:(du ts n:Int)=2:=a6
  simp only[go_sem,h2i]
  refine ay aa rfl (mf ts n fin 2 a6 a8) (by simp only[go_sem,n1,n2];all_goals rfl) (B+57) a6 (fi hf1) (by simp only[go_sem,n1,n2,ho]) (InF.go hin) (fun m h=>by rw[←hp,h];rfl) ?_
  intro t m ht
  rw[ht,PR.bind_ok] at hp
  unfold mV lh
  simp only[go_sem,n1,n2]
  refine⟨_,ag.refl _,?_⟩
  simp only[go_sem,n1,n2]
  exact InF.ret (n:=m) (a:=.mk 1 0 t.num [] []) (InF.go hin) (by simp only[go_sem,n1,n2]) hp.symm (wl .nil) (by simp[pack,exV,exD,qx])
 rw[if_neg h2] at hp
 have h2i:¬(du ts n:Int)=2:=a6
 simp only[go_sem,h2i]
 refine bP ts n fin [103,101,116] aa rfl (by simp only[go_sem,n1,n2]) (B+57) a6 (fi hf1) (by simp only[go_sem,n1,n2,ho]) a6 (fun h=>?_) (fun h=>?_)
 ·rw[if_pos h] at hp
  have hlt:=Src.cq h a7
  simp only[go_sem,n1,n2]
  refine bC ts (n+1) fin aa rfl [[40],[41]] (B+17) (by simp only[go_sem,n1,n2];all_goals rfl) (B+57) a6 (fi hf1) (by simp only[go_sem,n1,n2]) (by simp;omega) a6 a6 (by simp only[go_sem,n1,n2,bJ]) (InF.go hin) (fun m h=>by rw[←hp,show Src.jR=[40] from rfl,show Src.ir=[41] from rfl,h];rfl) ?_
  intro m hm
  rw[show Src.jR=[40] from rfl,show Src.ir=[41] from rfl,hm,PR.bind_ok] at hp
  simp only[go_sem,n1,n2]
  refine⟨_,ag.refl _,?_⟩
  simp only[go_sem,n1,n2]
  exact InF.ret (n:=m) (a:=.mk 5 0 0 [] []) (InF.go hin) (by simp only[go_sem,n1,n2]) hp.symm (wl .nil) (by simp[pack,exV,exD,qx])
 rw[if_neg h] at hp
 simp only[go_sem,n1,n2]
 refine bP ts n fin [40] aa rfl (by simp only[go_sem,n1,n2]) (B+57) a6 (fi hf1) (by simp only[go_sem,n1,n2,ho]) a6 (fun h=>?_) (fun h=>?_)
 ·rw[if_pos (show aD ts n=Src.jR from h)] at hp
  have hlt:=Src.cq h a7
  simp only[go_sem,n1,n2]
  refine ay aa rfl (ih.expr 1 (n+1) a6 a6 a6 a6) (by simp only[go_sem,n1,n2];all_goals rfl) (B+57) a6 (fi hf1) (by simp only[go_sem,n1,n2]) (InF.go hin) (fun m h=>by rw[←hp,h];rfl) ?_
  intro e m he
  rw[he,PR.bind_ok] at hp
  have hmn:=Src.fE k 1 (n+1) e m he
  obtain⟨ek,eo,en,es,ekd⟩:=e
  simp only[go_sem,n1,n2,exV,exD]
  refine bC ts m fin aa rfl [[41]] (B+26) (by simp only[go_sem,n1,n2];all_goals rfl) (B+57) a6 (fi hf1) (by simp only[go_sem,n1,n2]) (by simp;omega) a6 a6 (by simp only[go_sem,n1,n2,bJ]) (InF.go hin) (fun m h=>by rw[←hp,show Src.ir=[41] from rfl,h];rfl) ?_
  intro m2 hm
  rw[show Src.ir=[41] from rfl,hm,PR.bind_ok] at hp
  simp only[go_sem,n1,n2]
  refine⟨_,ag.refl _,?_⟩
  simp only[go_sem,n1,n2]
  exact InF.ret (n:=m2) (a:=.mk ek eo en es ekd) (InF.go hin) (by simp only[go_sem,n1,n2]) hp.symm (wl (.d _)) (by simp[pack,exV,exD])
 rw[if_neg (show ¬aD ts n=Src.jR from h)] at hp
 simp only[go_sem,n1,n2]
 refine bP ts n fin [33] aa rfl (by simp only[go_sem,n1,n2]) (B+57) a6 (fi hf1) (by simp only[go_sem,n1,n2,ho]) a6 (fun h=>?_) (fun h=>?_)
 ·rw[if_pos h] at hp
  have hlt:=Src.cq h a7
  simp only[go_sem,n1,n2]
  refine ay aa rfl (ih.atom (n+1) a6 a6) (by simp only[go_sem,n1,n2];all_goals rfl) (B+57) a6 (fi hf1) (by simp only[go_sem,n1,n2]) (InF.go hin) (fun m h=>by rw[←hp,h];rfl) ?_
  intro e m he
  rw[he,PR.bind_ok] at hp
  simp only[go_sem,n1,n2,exV,cV,j5]
  refine⟨_,ag.refl _,?_⟩
  simp only[go_sem,n1,n2]
  exact InF.ret (n:=m) (a:=.mk 7 0 0 [] [e]) (InF.go hin) (by simp only[go_sem,n1,n2]) hp.symm (wl (mJ (l:=[e]) a6 (by simp only[go_sem,n1,n2]) (by simp only[go_sem,n1,n2,mI]) rfl)) (by simp[pack,exV,exD])
 rw[if_neg h] at hp
 simp only[go_sem,n1,n2]
 refine ay aa rfl (mf ts n fin 1 a6 a8) (by simp only[go_sem,n1,n2];all_goals rfl) (B+57) a6 (fi hf1) (by simp only[go_sem,n1,n2,ho]) (InF.go hin) (fun m h=>by rw[←hp,h];rfl) ?_
 intro t m ht
 rw[ht,PR.bind_ok] at hp
 have hm1:=Src.iN t m ht
 have hm2:=Src.ff t m ht
 unfold mV lh
 simp only[go_sem,n1,n2]
 refine bP ts m fin [91] aa rfl (by simp only[go_sem,n1,n2]) (B+57) a6 (fi hf1) (by simp only[go_sem,n1,n2]) a6 (fun h=>?_) (fun h=>?_)
 ·rw[if_pos h] at hp
  have hlt:=Src.cq h a7
  simp only[go_sem,n1,n2]
  refine ay aa rfl (ih.expr 1 (m+1) a6 a6 a6 a6) (by simp only[go_sem,n1,n2];all_goals rfl) (B+57) a6 (fi hf1) (by simp only[go_sem,n1,n2]) (InF.go hin) (fun m h=>by rw[←hp,h];rfl) ?_
  intro e m2 he
  rw[he,PR.bind_ok] at hp
  have hmn:=Src.fE k 1 (m+1) e m2 he
  simp only[go_sem,n1,n2,exV,cV,j5]
  refine bC ts m2 fin aa rfl [[93]] (B+48) (by simp only[go_sem,n1,n2];all_goals rfl) (B+57) a6 (fi hf1) (by simp only[go_sem,n1,n2]) (by simp;omega) a6 a6 (by simp only[go_sem,n1,n2,bJ]) (InF.go hin) (fun m h=>by rw[←hp,h];rfl) ?_
  intro m3 hm
  rw[hm,PR.bind_ok] at hp
  simp only[go_sem,n1,n2]
  refine⟨_,ag.refl _,?_⟩
  simp only[go_sem,n1,n2]
  exact InF.ret (n:=m3) (a:=.mk 3 0 0 t.text [e]) (InF.go hin) (by simp only[go_sem,n1,n2]) hp.symm (wl (mJ (l:=[e]) a6 (by simp only[go_sem,n1,n2]) (by simp only[go_sem,n1,n2,mI]) rfl)) (by simp[pack,exV,exD])
 rw[if_neg h] at hp
 simp only[go_sem,n1,n2]
 refine bP ts m fin [40] aa rfl (by simp only[go_sem,n1,n2]) (B+57) a6 (fi hf1) (by simp only[go_sem,n1,n2]) a6 (fun h=>?_) (fun h=>?_)
 ·rw[if_pos (show aD ts m=Src.jR from h)] at hp
  have hlt:=Src.cq h a7
  simp only[go_sem,n1,n2]
  refine ay aa rfl (ih.args (m+1) a6 a6) (by simp only[go_sem,n1,n2];all_goals rfl) (B+57) a6 (fi hf1) (by simp only[go_sem,n1,n2]) (InF.go hin) (fun m h=>by rw[←hp,h];rfl) ?_
  intro l m2 he
  rw[he,PR.bind_ok] at hp
  simp only[go_sem,n1,n2,jg]
  refine⟨_,ag.refl _,?_⟩
  simp only[go_sem,n1,n2]
  exact InF.ret (n:=m2) (a:=.mk 4 0 0 t.text l) (InF.go hin) (by simp only[go_sem,n1,n2]) hp.symm (wl (.d _)) (by simp[pack,exV,exD,bh])
 rw[if_neg (show ¬aD ts m=Src.jR from h)] at hp
 simp only[go_sem,n1,n2]
 refine⟨_,ag.refl _,?_⟩
 simp only[go_sem,n1,n2]
 exact InF.ret (n:=m) (a:=.mk 2 0 0 t.text []) (InF.go hin) (by simp only[go_sem,n1,n2]) hp.symm (wl .nil) (by simp[pack,exV,exD,qx])
theorem zE {B id g n:Nat}{s:St}{l:List Ex} (hid:B≤id) (hg:s.gen id=g) (ho:s.obj id=some (exC l)) (hn:l.length=n):eI B s [.one (.osl id g 5 0 n)] [jg l]:=
 ⟨_,_,rfl,.one (by have:=mJ (B:=B) hid hg ho hn;rwa [bh] at this),rfl⟩
theorem Kg {ts:List Src.Tok}{fin k n:Nat} (hl:ts.length≤100000) (ih:∀j,j≤k→ExK ts fin j) (hnl:n≤ts.length) (hk:4*(ts.length-n)+4≤k+1):eF 155 [] ts n fin (fj ts (k+1) n) jg:=by
 intro B g ob hB hf ho
 refine al B [125] ac mixed Tryz.func155 rfl b9 [.tmp 2] rfl c8 c8 (by simp[Tryz.ntmps155]) (by simp;omega) hf fun b₀ β0 s0 w0=>?_
 have n1:=nlo hB
 have n2:=nhi hB
 have hin:InF B g ob g ob:=InF.refl
 have hf1:=hf
 obtain⟨p,hp⟩:∃p,fj ts (k+1) n=p:=⟨_,rfl⟩
 rw[hp]
 rw[fj] at hp
 simp only[go_sem,n1,n2]
 refine bP ts n fin [41] aa rfl (by simp only[go_sem,n1,n2]) (B+20) a6 (fi hf1) (by simp only[go_sem,n1,n2,ho]) a6 (fun h=>?_) (fun h=>?_)
 ·rw[if_pos (show aD ts n=Src.ir from h)] at hp
  simp only[go_sem,n1,n2]
  refine⟨_,ag.refl _,?_⟩
  simp only[go_sem,n1,n2]
  exact InF.ret (n:=n+1) (a:=[]) (rs:=[.one (.d (.sl []))]) (InF.go hin) (by simp only[go_sem,n1,n2]) hp.symm ⟨_,_,rfl,.one .nil,rfl⟩ rfl
 rw[if_neg (show ¬aD ts n=Src.ir from h)] at hp
 simp only[go_sem,n1,n2]
 refine ay aa rfl ((ih k (j9 _)).expr 1 n a6 a6 a6 a6) (by simp only[go_sem,n1,n2];all_goals rfl) (B+20) a6 (fi hf1) (by simp only[go_sem,n1,n2,ho]) (InF.go hin) (fun m h=>by rw[←hp,h];rfl) ?_
 intro e m he
 rw[he,PR.bind_ok] at hp
 have hm1:=Src.fE k 1 n e m he
 have hm2:=Src.ep k 1 n e m he
 simp only[go_sem,n1,n2,exV,cV,j5]
 refine ap (fun z st=>∃(j n':Nat) (acc:List Ex),z+n'=ts.length∧acc.length≤n'∧4*(ts.length-n')+2≤j∧j≤k∧st.f 0=.one (.ptr 125 (g 125) 0)∧st.f 3=.one (.osl (B+8) (st.gen (B+8)) 5 0 acc.length)∧st.obj (B+8)=some (exC acc)∧st.obj 125=some (rdC ts n' fin)∧InF B g ob st.gen st.obj∧(∀i,B+20≤i→st.obj i=none)∧gg ts j acc n'=p) (ts.length-m) ?_ ?_
 ·refine⟨k,m,[e],a6,by simp;omega,a6,j9 _,?_⟩
  simp only[go_sem,n1,n2,mI]
  exact⟨(InF.go hin),(fi hf1),hp⟩
 clear hf1 hin hp he
 rintro z f g1 ob1 ⟨j,n',acc,hz,hacc,hj,hjk,q0,q3,o8,o125,hin,hf1,hp⟩
 simp only at q0 q3 o8 o125 hin hf1
 obtain⟨j,rfl⟩:∃i,j=i+1:=⟨j-1,a6⟩
 rw[gg] at hp
 have hg:=hin.rd
 simp only[go_sem,q0]
 refine bP ts n' fin [44] aa rfl (by simp only[go_sem,n1,n2,hg,q0]) (B+20) a6 (fi hf1) (by simp only[go_sem,n1,n2,o125]) a6 (fun h=>?_) (fun h=>?_)
 ·rw[if_pos (show aD ts n'=Src.vm from h)] at hp
  have hlt:=Src.cq h a7
  simp only[go_sem,n1,n2,q0,q3]
  refine ay aa rfl ((ih j a6).expr 1 (n'+1) a6 a6 a6 a6) (by simp only[go_sem,n1,n2,hg,q0];all_goals rfl) (B+20) a6 (fi hf1) (by simp only[go_sem,n1,n2]) (InF.go hin) (fun m h=>by rw[←hp,h];rfl) ?_
  intro e m he
  rw[he,PR.bind_ok] at hp
  have hm1:=Src.fE j 1 (n'+1) e m he
  have hm2:=Src.ep j 1 (n'+1) e m he
  have hcl:=GB acc
  simp only[go_sem,n1,n2,exV,cV,j5,q0,q3,o8,hcl,aH]
  refine⟨a6,⟨a8,a6⟩,?_⟩
  refine ah (ts.length-m) a6 ⟨j,m,acc++[e],a6,by rw[j4];simp;omega,a6,a6,?_⟩
  simp only[go_sem,n1,n2,q0,q3,j4]
  refine⟨?_,(InF.go hin),(fi hf1),hp⟩
  rw[l6 a6,GC,mI,l6 (by simp[cV])]
 ·rw[if_neg (show ¬aD ts n'=Src.vm from h)] at hp
  simp only[go_sem,n1,n2,q0,q3]
  refine bC ts n' fin aa rfl [[41]] (B+17) (by simp only[go_sem,n1,n2,hg,q0];all_goals rfl) (B+20) a6 (fi hf1) (by simp only[go_sem,n1,n2,o125]) (by simp;omega) a6 a6 (by simp only[go_sem,n1,n2,bJ]) (InF.go hin) (fun m h=>by rw[←hp,show Src.ir=[41] from rfl,h];rfl) ?_
  intro m hm
  rw[show Src.ir=[41] from rfl,hm,PR.bind_ok] at hp
  simp only[go_sem,n1,n2,q0,q3]
  refine⟨_,ag.refl _,?_⟩
  simp only[go_sem,n1,n2,q3]
  exact InF.ret (n:=m) (a:=acc) (InF.go hin) (by simp only[go_sem,n1,n2]) hp.symm (zE a6 (by simp only[go_sem,n1,n2]) (by simp only[go_sem,n1,n2,o8]) rfl) rfl
section
variable {ts:List Src.Tok}
theorem Kh{fin k least n:Nat} (hl:ts.length≤100000) (ih:∀j,j≤k→ExK ts fin j) (hle:1≤least) (hle2:least≤100) (hnl:n≤ts.length) (hk:4*(ts.length-n)+3≤k+1):eF 131 [iv .i64 least] ts n fin (cC ts (k+1) least n) exV:=by
 intro B g ob hB hf ho
 refine al B [125] ac mixed Tryz.func131 rfl b9 [.cell 4 44] rfl c8 c8 (by simp[Tryz.ntmps131]) (by simp;omega) hf fun b₀ β0 s0 w0=>?_
 have n1:=nlo hB
 have n2:=nhi hB
 have hin:InF B g ob g ob:=InF.refl
 have hf1:=hf
 obtain⟨p,hp⟩:∃p,cC ts (k+1) least n=p:=⟨_,rfl⟩
 rw[hp]
 rw[cC] at hp
 simp only[go_sem,n1,n2]
 refine ay aa rfl ((ih k (j9 _)).atom n a6 a6) (by simp only[go_sem,n1,n2];all_goals rfl) (B+35) a6 (fi hf1) (by simp only[go_sem,n1,n2,ho]) (InF.go hin) (fun m h=>by rw[←hp,h];rfl) ?_
 intro e m he
 rw[he,PR.bind_ok] at hp
 have hm1:=Src.wY k n e m he
 have hm2:=Src.uh k n e m he
 obtain⟨ek,eo,en,es,ekd⟩:=e
 simp only[go_sem,n1,n2,exV,exD]
 refine ap (fun z st=>∃(j n':Nat) (left:Ex),z+n'=ts.length∧4*(ts.length-n')+2≤j∧j≤k∧st.f 0=.one (.ptr 125 (g 125) 0)∧st.f 1=iv .i64 least∧st.f 4=.one (.ptr (B+4) (st.gen (B+4)) 0)∧st.f 5=.one (.ptr (B+5) (st.gen (B+5)) 0)∧
  (∃a b c d e,st.obj (B+4)=some [a,b,c,d,e])∧st.obj (B+5)=some ((exD left).map .d)∧st.obj 125=some (rdC ts n' fin)∧InF B g ob st.gen st.obj∧(∀i,B+35≤i→st.obj i=none)∧gf ts j least left n'=p) (ts.length-m) ?_ ?_
 ·refine⟨k,m,.mk ek eo en es ekd,a6,a6,j9 _,?_⟩
  simp only[go_sem,n1,n2,exD]
  exact⟨⟨_,_,_,_,_,rfl,rfl,rfl,rfl,rfl⟩,(InF.go hin),(fi hf1),hp⟩
 clear hf1 hin hp he
 rintro z f g1 ob1 ⟨j,n',left,hz,hj,hjk,q0,q1,q4,q5,⟨a,b,c,d,e,o4⟩,o5,o125,hin,hf1,hp⟩
 simp only at q0 q1 q4 q5 o4 o5 o125 hin hf1
 obtain⟨j,rfl⟩:∃i,j=i+1:=⟨j-1,a6⟩
 rw[gf] at hp
 have hg:=hin.rd
 obtain⟨lk,lo,ln,ls,lkd⟩:=left
 simp only[exD,l5,w7] at o5
 have hsl:=GA (aD ts n')
 simp only[go_sem,q0]
 refine AO ts n' fin aa rfl (by simp only[go_sem,n1,n2,hg,q0]) (B+35) a6 (fi hf1) (by simp only[go_sem,n1,n2,o125]) ?_
 simp only[go_sem,q0]
 refine aF aa rfl (by simp only[go_sem,q0];exact Kd _) (by simp only[go_sem];rfl) ?_
 rintro _ rfl
 unfold zA
 by_cases hlt:(Src.ud (aD ts n')).2.2<least
 ·rw[if_pos hlt] at hp
  have hli:((Src.ud (aD ts n')).2.2:Int)<(least:Int):=a6
  simp only[go_sem,q0,q1,q4,q5,hli,o4,o5]
  refine⟨_,ag.refl _,?_⟩
  simp only[go_sem,q4,n1,n2]
  exact InF.ret (n:=n') (a:=.mk lk lo ln ls lkd) (InF.go hin) (by simp only[go_sem,n1,n2,o125]) hp.symm (wl (.d _)) (by simp[pack,exV,exD])
 rw[if_neg hlt] at hp
 have hli:¬((Src.ud (aD ts n')).2.2:Int)<(least:Int):=a6
 have hnl':n'<ts.length:=by
  refine Src.cq rfl fun h=>?_
  rw[h,Dp] at hlt
  omega
 have hw:=ai (k:=n') a6
 have hws:=ai (k:=(Src.ud (aD ts n')).2.2) a6
 unfold rdC gX at o125
 simp only[go_sem,q0,q1,q4,q5,hli,o4,o5,hg,o125,hw,n1,n2]
 obtain⟨right,m',hlook⟩:=look (cC ts j ((Src.ud (aD ts n')).2.2+1) (n'+1))
 refine jn (∃a m,cC ts j ((Src.ud (aD ts n')).2.2+1) (n'+1)=.ok a m) ac mixed aa [B+32,125] [([5],[1],[],false),([0],[],[],false),([7],[],[],false),([29],[],[],false),([28,30],[],[1],false),([27,31],[],[0],false),([6],[0,1],[],false),([33,32],[],[],true)] 2 rfl c9 rfl (by simp;omega) ?_
 simp only[go_sem]
 (apply bw;(case hf=>rfl);(case hg=>first|exact s9|exact⟨_,rfl,by decide,rfl⟩);(case h1=>intro fa ga oa K' hK;simp only[go_sem,q5,o5,n1,n2] at hK ⊢;exact hK))
 iterate 2 (apply bw;(case hf=>rfl);(case hg=>first|exact s9|exact⟨_,rfl,by decide,rfl⟩);(case h1=>intro fa ga oa K' hK;simp only[go_sem,q0] at hK ⊢;exact hK))
 (apply bw;(case hf=>rfl);(case hg=>first|exact s9|exact⟨_,rfl,by decide,rfl⟩);(case h1=>intro fa ga oa K' hK;simp only[go_sem,hws] at hK ⊢;exact hK))
 refine jo (v:=exV right) (y:=some (rdC ts m' fin)) s9 a7 (fun fa ga oa K' hK=>?_) ?_
 ·simp only[go_sem,q0] at hK ⊢
  refine ay (k:=bx K') aa rfl ((ih j a6).expr ((Src.ud (aD ts n')).2.2+1) (n'+1) a6 a6 a6 a6) (by simp only[go_sem,n1,n2,hg];all_goals rfl) (B+35) a6 (fi hf1) (by simp only[go_sem,n1,n2,rdC,gX]) (InF.go hin) (fun m h=>by rw[←hp,h];rfl) ?_
  intro a2 m2 h2
  have e:=hlook ⟨_,_,h2⟩
  rw[h2] at e
  cases e
  simp only[go_sem]
  exact hK ⟨_,_,h2⟩
 (apply iE;(case hf=>rfl);(case hg=>first|exact s9|exact⟨_,rfl,by decide,rfl⟩);(case h1=>intro fa ga oa K' hK;simp only[go_sem,exV,cV,j5] at hK ⊢;exact hK))
 (apply bw;(case hf=>rfl);(case hg=>first|exact s9|exact⟨_,rfl,by decide,rfl⟩);(case h1=>intro fa ga oa K' hK;simp only[go_sem,n1,n2] at hK ⊢;exact hK))
 refine jp rfl s9 ?_
 intro K' hK'
 simp only[go_sem,n1,n2]
 refine hK' _ ?_
 clear hK' K'
 intro hz'
 have e:=hlook hz'
 rw[e,PR.bind_ok] at hp
 have hm1:=Src.fE j ((Src.ud (aD ts n')).2.2+1) (n'+1) right m' e
 have hm2:=Src.ep j ((Src.ud (aD ts n')).2.2+1) (n'+1) right m' e
 simp only[go_sem,n1,n2,q5,o5,q0,q1,q4]
 refine⟨ts.length-m',_,a6,ki (id:=B+32) (o:=B+5) (cells:=[.d (.int .i64 (Src.ud (aD ts n')).1),.d (.int .i64 (Src.ud (aD ts n')).2.1),.d (.int .u32 0),.d (.str []),.osl (B+32) (nxC (aH Tt 42+1) (g1 (B+32))) 5 0 2]) (cs:=[.d (.int .i64 (Src.ud (aD ts n')).1),.d (.int .i64 (Src.ud (aD ts n')).2.1),.d (.int .u32 0),.d (.str []),.d (.sl [exD (.mk lk lo ln ls lkd),exD right])]) (by simp only[go_sem,n1,n2]) rfl ?_,?_⟩
 ·intro i c c' hc hc'
  match i,hc,hc' with
  |0,hc,hc'=>cases hc;cases hc';exact .inl rfl
  |1,hc,hc'=>cases hc;cases hc';exact .inl rfl
  |2,hc,hc'=>cases hc;cases hc';exact .inl rfl
  |3,hc,hc'=>cases hc;cases hc';exact .inl rfl
  |4,hc,hc'=>
    cases hc;cases hc'
    refine .inr ⟨_,cg (P:=(· = B+32)) rfl ?_ [.mk lk lo ln ls lkd,right] exD (cells:=exC [.mk lk lo ln ls lkd,right]) ?_ rfl (fun a _=>cV a) rfl,rfl⟩
    ·simp only[go_sem,n1,n2]
    ·simp only[go_sem,n1,n2]
     simp[exC,exD]
 refine⟨j,m',.mk (Src.ud (aD ts n')).1 (Src.ud (aD ts n')).2.1 0 [] [.mk lk lo ln ls lkd,right],a6,a6,a6,?_⟩
 simp only[St.drop1]
 simp only[go_sem,n1,n2,q0,q1,q4,exD,qx]
 exact⟨q5,⟨_,_,_,_,_,o4⟩,(InF.go hin),(fi hf1),hp⟩
theorem AQ (fin:Nat) (hl:ts.length≤100000) (k:Nat):ExK ts fin k:=by
 induction k using Nat.strongRecOn with
 |ind k ih=>
   cases k with
   |zero=>exact⟨fun _ _ _ _ _ h=>absurd h a6,fun _ _ h=>absurd h a6,fun _ _ h=>absurd h a6⟩
   |succ k=>
     exact⟨fun least n h1 h2 h3 h4=>Kh hl (fun j hj=>ih j a6) h1 h2 h3 h4,fun n h1 h2=>Kf hl (ih k a6) h1 h2,fun n h1 h2=>Kg hl (fun j hj=>ih j a6) h1 h2⟩
end
end
section
attribute [local congr] Go.Am.ite_cc
open Go Go.Am Go.Asm
open Go.Src (PR du aD takeN bA Ex Stm cC gf eN fj gg iR iu dY dR)
section
def jy (l:List Str):AV:=.one (.d (.sl (l.map fun s=>[.str s])))
theorem pp (l:List Str):(bJ l).length=l.length:=j5 _
theorem Dq {B id g n:Nat}{s:St}{l:List Str} (hid:B≤id) (hg:s.gen id=g) (ho:s.obj id=some (bJ l)) (hn:l.length=n):eI B s [.one (.osl id g 1 0 n)] [jy l]:=
 ⟨_,_,rfl,.one (cg hid hg l (fun s=>[.str s]) ho (by unfold bJ;clear ho hn;induction l with|nil=>rfl|cons a l ih=>simpa using ih) (fun _ _=>rfl) hn),rfl⟩
variable {ts:List Src.Tok}{fin k n:Nat}
theorem uX (hl:ts.length≤100000) (hnl:n≤ts.length) (hk:ts.length-n+1≤k):eF 37 [] ts n fin (dY ts k n) jy:=by
 intro B g ob hB hf ho
 refine al B [125] ac mixed Tryz.func37 rfl b9 [.tmp 2] rfl c8 c8 (by simp[Tryz.ntmps37]) (by simp;omega) hf fun b₀ β0 s0 w0=>?_
 have n1:=nlo hB
 have n2:=nhi hB
 have hin:InF B g ob g ob:=InF.refl
 have hf1:=hf
 obtain⟨p,hp⟩:∃p,dY ts k n=p:=⟨_,rfl⟩
 rw[hp]
 rw[dY] at hp
 simp only[go_sem,n1,n2]
 refine ay aa rfl (mf ts n fin 1 a6 a8) (by simp only[go_sem,n1,n2];all_goals rfl) (B+17) a6 (fi hf1) (by simp only[go_sem,n1,n2,ho]) (InF.go hin) (fun m h=>by rw[←hp,h];rfl) ?_
 intro t m ht
 rw[ht,PR.bind_ok] at hp
 have hm1:=Src.iN t m ht
 have hm2:=Src.ff t m ht
 unfold mV lh
 simp only[go_sem,n1,n2]
 refine ap (fun z st=>∃(j n':Nat) (acc:List Str),z+n'=ts.length∧acc.length≤n'∧ts.length-n'+1≤j∧st.f 0=.one (.ptr 125 (g 125) 0)∧st.f 3=.one (.osl (B+7) (st.gen (B+7)) 1 0 acc.length)∧st.obj (B+7)=some (bJ acc)∧st.obj 125=some (rdC ts n' fin)∧InF B g ob st.gen st.obj∧(∀i,B+17≤i→st.obj i=none)∧dR ts j acc n'=p) (ts.length-m) ?_ ?_
 ·refine⟨k,m,[t.text],a6,by simp;omega,a6,?_⟩
  simp only[go_sem,n1,n2,bJ]
  exact⟨(InF.go hin),(fi hf1),hp⟩
 clear hf1 hin hp
 rintro z f g1 ob1 ⟨j,n',acc,hz,hacc,hj,q0,q3,o7,o125,hin,hf1,hp⟩
 simp only at q0 q3 o7 o125 hin hf1
 obtain⟨j,rfl⟩:∃i,j=i+1:=⟨j-1,a6⟩
 rw[dR] at hp
 have hg:=hin.rd
 simp only[go_sem,q0]
 refine bP ts n' fin [44] aa rfl (by simp only[go_sem,n1,n2,hg,q0]) (B+17) a6 (fi hf1) (by simp only[go_sem,n1,n2,o125]) a6 (fun h=>?_) (fun h=>?_)
 ·rw[if_pos (show aD ts n'=Src.vm from h)] at hp
  have hlt:=Src.cq h a7
  simp only[go_sem,n1,n2,q0,q3]
  refine ay aa rfl (mf ts (n'+1) fin 1 a6 a8) (by simp only[go_sem,n1,n2,hg,q0];all_goals rfl) (B+17) a6 (fi hf1) (by simp only[go_sem,n1,n2]) (InF.go hin) (fun m h=>by rw[←hp,h];rfl) ?_
  intro t m ht
  rw[ht,PR.bind_ok] at hp
  have hm1:=Src.iN t m ht
  have hm2:=Src.ff t m ht
  have hcl:=pp acc
  unfold mV lh
  simp only[go_sem,n1,n2,q0,q3,o7,hcl,aH]
  refine⟨a6,⟨a8,a6⟩,?_⟩
  refine ah (ts.length-m) a6 ⟨j,m,acc++[t.text],a6,by rw[j4];simp;omega,a6,?_⟩
  simp only[go_sem,n1,n2,q0,q3,j4]
  refine⟨?_,(InF.go hin),(fi hf1),hp⟩
  rw[l6 a6]
  simp[bJ]
 ·rw[if_neg (show ¬aD ts n'=Src.vm from h)] at hp
  simp only[go_sem,n1,n2,q0,q3]
  refine⟨_,ag.refl _,?_⟩
  simp only[go_sem,n1,n2,q3]
  exact InF.ret (n:=n') (a:=acc) (InF.go hin) (by simp only[go_sem,n1,n2,o125]) hp.symm (Dq a6 (by simp only[go_sem,n1,n2]) (by simp only[go_sem,n1,n2,o7]) rfl) rfl
theorem uY (hl:ts.length≤100000) (hnl:n≤ts.length) (hk:4*(ts.length-n)+3≤k):eF 130 [] ts n fin (iR ts k n) jg:=by
 intro B g ob hB hf ho
 refine al B [125] ac mixed Tryz.func130 rfl b9 [.tmp 2] rfl c8 c8 (by simp[Tryz.ntmps130]) (by simp;omega) hf fun b₀ β0 s0 w0=>?_
 have n1:=nlo hB
 have n2:=nhi hB
 have hin:InF B g ob g ob:=InF.refl
 have hf1:=hf
 obtain⟨p,hp⟩:∃p,iR ts k n=p:=⟨_,rfl⟩
 rw[hp]
 rw[iR] at hp
 simp only[go_sem,n1,n2]
 refine bC ts n fin aa rfl [[40]] (B+5) (by simp only[go_sem,n1,n2];all_goals rfl) (B+14) a6 (fi hf1) (by simp only[go_sem,n1,n2,ho]) (by simp;omega) a6 a6 (by simp only[go_sem,n1,n2,bJ]) (InF.go hin) (fun m h=>by rw[←hp,show Src.jR=[40] from rfl,h];rfl) ?_
 intro m hm
 rw[show Src.jR=[40] from rfl,hm,PR.bind_ok] at hp
 have hm1:=Src.bZ (ts:=ts) a7 () m hm
 have hm2:=Src.bX () m hm
 simp only[go_sem,n1,n2]
 refine ay aa rfl ((AQ fin hl k).expr 1 m a6 a6 a6 a6) (by simp only[go_sem,n1,n2];all_goals rfl) (B+14) a6 (fi hf1) (by simp only[go_sem,n1,n2]) (InF.go hin) (fun m h=>by rw[←hp,h];rfl) ?_
 intro e m2 he
 rw[he,PR.bind_ok] at hp
 have hm3:=Src.fE k 1 m e m2 he
 obtain⟨ek,eo,en,es,ekd⟩:=e
 simp only[go_sem,n1,n2,exV,exD]
 refine bC ts m2 fin aa rfl [[41]] (B+10) (by simp only[go_sem,n1,n2];all_goals rfl) (B+14) a6 (fi hf1) (by simp only[go_sem,n1,n2]) (by simp;omega) a6 a6 (by simp only[go_sem,n1,n2,bJ]) (InF.go hin) (fun m h=>by rw[←hp,show Src.ir=[41] from rfl,h];rfl) ?_
 intro m3 hm
 rw[show Src.ir=[41] from rfl,hm,PR.bind_ok] at hp
 simp only[go_sem,n1,n2]
 refine⟨_,ag.refl _,?_⟩
 simp only[go_sem,n1,n2]
 exact InF.ret (n:=m3) (a:=[.mk ek eo en es ekd]) (InF.go hin) (by simp only[go_sem,n1,n2]) hp.symm (zE a6 (by simp only[go_sem,n1,n2]) (by simp only[go_sem,n1,n2];simp[exC,exD]) rfl) rfl
end
end
section
attribute [local congr] Go.Am.ite_cc
open Go Go.Am Go.Asm
open Go.Src (PR du aD takeN bA Ex Stm cC gf eN fj gg iR iu dY iZ gY cO)
mutual
def smD:Stm→List D
 |.mk kind name e th el=>[.int .i64 kind,.str name,.sl (qx e),.sl (qy th),.sl (qy el)]
def qy:List Stm→List (List D)
 |[]=>[]
 |s::l=>smD s::qy l
end
theorem fD:∀l:List Stm,qy l=l.map smD
 |[]=>by simp[qy]
 |e::l=>by simp[qy,fD l]
theorem jP (e:Stm):(smD e).length=5:=by cases e;simp[smD]
def smV (e:Stm):AV:=.agg ((smD e).map .d)
def jz (l:List Stm):AV:=.one (.d (.sl (l.map smD)))
def smC (l:List Stm):List C:=l.flatMap fun a=>(smD a).map .d
theorem zF (l:List Stm):(smC l).length=l.length*5:=by
 induction l with
 |nil=>rfl
 |cons a l ih=>simp only[smC,D1,j4,j5,jP,j6] at ih ⊢;omega
theorem zG (e:Stm):smC [e]=(smD e).map .d:=by simp[smC]
theorem zH (l m:List Stm):smC (l++m)=smC l++smC m:=by simp[smC]
theorem GD {B id g n:Nat}{s:St}{l:List Stm} (hid:B≤id) (hg:s.gen id=g) (ho:s.obj id=some (smC l)) (hn:l.length=n):eI B s [.one (.osl id g 5 0 n)] [jz l]:=
 ⟨_,_,rfl,.one (cg hid hg l smD ho rfl (fun a _=>jP a) hn),rfl⟩
theorem nf {B:Nat}{s:St}{a b:D}{c3 c4 c5:C}{x3 x4 x5:D} (h3:dU (B≤·) s c3 x3) (h4:dU (B≤·) s c4 x4) (h5:dU (B≤·) s c5 x5):eI B s [.agg [.d a,.d b,c3,c4,c5]] [.agg [.d a,.d b,.d x3,.d x4,.d x5]]:=
 ⟨_,_,rfl,.agg (xs:=[a,b,x3,x4,x5]) rfl (fun i e he=>by
  match i,he with
  |0,he=>cases he;exact⟨_,rfl,.d _⟩
  |1,he=>cases he;exact⟨_,rfl,.d _⟩
  |2,he=>cases he;exact⟨_,rfl,h3⟩
  |3,he=>cases he;exact⟨_,rfl,h4⟩
  | 4,he=>cases he;exact⟨_,rfl,h5⟩),rfl⟩
theorem GE {ts:List Src.Tok}{fin k n:Nat} (hl:ts.length≤100000) (hnl:n≤ts.length) (hk:4*(ts.length-n)+3≤k):eF 133 [] ts n fin (iu ts k n) smV:=by
 intro B g ob hB hf ho
 refine al B [125] ac mixed Tryz.func133 rfl b9 [.cell 2 48] rfl c8 c8 (by simp[Tryz.ntmps133]) (by simp;omega) hf fun b₀ β0 s0 w0=>?_
 have n1:=nlo hB
 have n2:=nhi hB
 have hin:InF B g ob g ob:=InF.refl
 have hf1:=hf
 obtain⟨p,hp⟩:∃p,iu ts k n=p:=⟨_,rfl⟩
 rw[hp]
 rw[iu] at hp
 simp only[go_sem,n1,n2]
 refine ay aa rfl (mf ts n fin 1 a6 a8) (by simp only[go_sem,n1,n2];all_goals rfl) (B+44) a6 (fi hf1) (by simp only[go_sem,n1,n2,ho]) (InF.go hin) (fun m h=>by rw[←hp,h];rfl) ?_
 intro t m ht
 rw[ht,PR.bind_ok] at hp
 have hm1:=Src.iN t m ht
 have hm2:=Src.ff t m ht
 unfold mV lh
 simp only[go_sem,n1,n2]
 refine bP ts m fin [61] aa rfl (by simp only[go_sem,n1,n2]) (B+44) a6 (fi hf1) (by simp only[go_sem,n1,n2]) a6 (fun h=>?_) (fun h=>?_)
 ·rw[if_pos h] at hp
  have hlt:=Src.cq h a7
  simp only[go_sem,n1,n2]
  refine ay aa rfl ((AQ fin hl k).expr 1 (m+1) a6 a6 a6 a6) (by simp only[go_sem,n1,n2];all_goals rfl) (B+44) a6 (fi hf1) (by simp only[go_sem,n1,n2]) (InF.go hin) (fun m h=>by rw[←hp,h];rfl) ?_
  intro e m2 he
  rw[he,PR.bind_ok,PR.bind_ok] at hp
  have hm3:=Src.fE k 1 (m+1) e m2 he
  simp only[go_sem,n1,n2,exV,cV,j5]
  refine bC ts m2 fin aa rfl [[59]] (B+41) (by simp only[go_sem,n1,n2];all_goals rfl) (B+44) a6 (fi hf1) (by simp only[go_sem,n1,n2]) (by simp;omega) a6 a6 (by simp only[go_sem,n1,n2,bJ]) (InF.go hin) (fun m h=>by rw[←hp,show Src.jS=[59] from rfl,h];rfl) ?_
  intro m3 hm
  rw[show Src.jS=[59] from rfl,hm,PR.bind_ok] at hp
  simp only[go_sem,n1,n2]
  refine⟨_,ag.refl _,?_⟩
  simp only[go_sem,n1,n2]
  exact InF.ret (n:=m3) (a:=.mk 1 t.text [e] [] []) (InF.go hin) (by simp only[go_sem,n1,n2]) hp.symm (nf (mJ (l:=[e]) a6 (by simp only[go_sem,n1,n2]) (by simp only[go_sem,n1,n2,mI]) rfl) .nil .nil) (by simp[pack,smV,smD,qy])
 rw[if_neg h] at hp
 simp only[go_sem,n1,n2]
 refine bP ts m fin [91] aa rfl (by simp only[go_sem,n1,n2]) (B+44) a6 (fi hf1) (by simp only[go_sem,n1,n2]) a6 (fun h=>?_) (fun h=>?_)
 ·rw[if_pos h] at hp
  have hlt:=Src.cq h a7
  simp only[go_sem,n1,n2]
  refine ay aa rfl ((AQ fin hl k).expr 1 (m+1) a6 a6 a6 a6) (by simp only[go_sem,n1,n2];all_goals rfl) (B+44) a6 (fi hf1) (by simp only[go_sem,n1,n2]) (InF.go hin) (fun m h=>by rw[←hp,h];rfl) ?_
  intro e m2 he
  rw[he,PR.bind_ok] at hp
  have hm3:=Src.fE k 1 (m+1) e m2 he
  have hm3':=Src.ep k 1 (m+1) e m2 he
  obtain⟨ek,eo,en,es,ekd⟩:=e
  simp only[go_sem,n1,n2,exV,exD]
  refine bC ts m2 fin aa rfl [[93],[61]] (B+25) (by simp only[go_sem,n1,n2];all_goals rfl) (B+44) a6 (fi hf1) (by simp only[go_sem,n1,n2]) (by simp;omega) a6 a6 (by simp only[go_sem,n1,n2,bJ]) (InF.go hin) (fun m h=>by rw[←hp,h];rfl) ?_
  intro m3 hm
  rw[hm,PR.bind_ok] at hp
  have hm4:=Src.bZ (ts:=ts) a7 () m3 hm
  have hm5:=Src.bX () m3 hm
  simp only[go_sem,n1,n2]
  obtain⟨right,m',hlook⟩:=look (cC ts k 1 m3)
  refine jn (∃a m,cC ts k 1 m3=.ok a m) ac mixed aa [B+31,125] [([4],[1],[],false),([0],[],[],false),([29],[],[1],false),([28,30],[],[0],false),([3],[0,1],[],false),([32,31],[],[],true)] 2 rfl c9 rfl (by simp;omega) ?_
  simp only[go_sem]
  (apply bw;(case hf=>rfl);(case hg=>first|exact s9|exact⟨_,rfl,by decide,rfl⟩);(case h1=>intro fa ga oa K' hK;simp only[go_sem,n1,n2] at hK ⊢;exact hK))
  (apply bw;(case hf=>rfl);(case hg=>first|exact s9|exact⟨_,rfl,by decide,rfl⟩);(case h1=>intro fa ga oa K' hK;simp only[go_sem] at hK ⊢;exact hK))
  refine jo (v:=exV right) (y:=some (rdC ts m' fin)) s9 a7 (fun fa ga oa K' hK=>?_) ?_
  ·simp only[go_sem,n1,n2] at hK ⊢
   refine ay (k:=bx K') aa rfl ((AQ fin hl k).expr 1 m3 a6 a6 a6 a6) (by simp only[go_sem,n1,n2];all_goals rfl) (B+44) a6 (fi hf1) (by simp only[go_sem,n1,n2]) (InF.go hin) (fun m h=>by rw[←hp,h];rfl) ?_
   intro a2 q2 h2
   have e:=hlook ⟨_,_,h2⟩
   rw[h2] at e
   cases e
   simp only[go_sem,n1,n2]
   exact hK ⟨_,_,h2⟩
  (apply iE;(case hf=>rfl);(case hg=>first|exact s9|exact⟨_,rfl,by decide,rfl⟩);(case h1=>intro fa ga oa K' hK;simp only[go_sem,exV,cV,j5,n1,n2] at hK ⊢;exact hK))
  (apply bw;(case hf=>rfl);(case hg=>first|exact s9|exact⟨_,rfl,by decide,rfl⟩);(case h1=>intro fa ga oa K' hK;simp only[go_sem,n1,n2] at hK ⊢;exact hK))
  refine jp rfl s9 ?_
  intro K' hK'
  simp only[go_sem,n1,n2]
  refine hK' _ ?_
  clear hK' K'
  intro hz'
  have e:=hlook hz'
  rw[e,PR.bind_ok,PR.bind_ok] at hp
  have hm6:=Src.fE k 1 m3 right m' e
  simp only[go_sem,n1,n2]
  refine bC ts m' fin aa rfl [[59]] (B+41) (by simp only[go_sem,n1,n2];all_goals rfl) (B+44) a6 (fi hf1) (by simp only[go_sem,n1,n2]) (by simp;omega) a6 a6 (by simp only[go_sem,n1,n2,bJ]) (InF.go hin) (fun m h=>by rw[←hp,show Src.jS=[59] from rfl,h];rfl) ?_
  intro m4 hm
  rw[show Src.jS=[59] from rfl,hm,PR.bind_ok] at hp
  simp only[go_sem,n1,n2]
  refine⟨_,ag.refl _,?_⟩
  simp only[go_sem,n1,n2]
  exact InF.ret (n:=m4) (a:=.mk 2 t.text [.mk ek eo en es ekd,right] [] []) (InF.go hin) (by simp only[go_sem,n1,n2]) hp.symm (nf (mJ (l:=[.mk ek eo en es ekd,right]) a6 (by simp only[go_sem,n1,n2]) (by simp only[go_sem,n1,n2];simp[exC,exD]) rfl) .nil .nil) (by simp[pack,smV,smD,qy])
 rw[if_neg h] at hp
 simp only[go_sem,n1,n2]
 refine bP ts m fin [40] aa rfl (by simp only[go_sem,n1,n2]) (B+44) a6 (fi hf1) (by simp only[go_sem,n1,n2]) a6 (fun h=>?_) (fun h=>?_)
 ·rw[if_pos (show aD ts m=Src.jR from h)] at hp
  have hlt:=Src.cq h a7
  simp only[go_sem,n1,n2]
  refine ay aa rfl ((AQ fin hl k).args (m+1) a6 a6) (by simp only[go_sem,n1,n2];all_goals rfl) (B+44) a6 (fi hf1) (by simp only[go_sem,n1,n2]) (InF.go hin) (fun m h=>by rw[←hp,h];rfl) ?_
  intro l m2 he
  rw[he,PR.bind_ok,PR.bind_ok] at hp
  have hm3:=Src.wZ k (m+1) l m2 he
  simp only[go_sem,n1,n2,jg]
  refine bC ts m2 fin aa rfl [[59]] (B+41) (by simp only[go_sem,n1,n2];all_goals rfl) (B+44) a6 (fi hf1) (by simp only[go_sem,n1,n2]) (by simp;omega) a6 a6 (by simp only[go_sem,n1,n2,bJ]) (InF.go hin) (fun m h=>by rw[←hp,show Src.jS=[59] from rfl,h];rfl) ?_
  intro m3 hm
  rw[show Src.jS=[59] from rfl,hm,PR.bind_ok] at hp
  simp only[go_sem,n1,n2]
  refine⟨_,ag.refl _,?_⟩
  simp only[go_sem,n1,n2]
  exact InF.ret (n:=m3) (a:=.mk 6 t.text l [] []) (InF.go hin) (by simp only[go_sem,n1,n2]) hp.symm (nf (.d _) .nil .nil) (by simp[pack,smV,smD,qy,bh])
 rw[if_neg (show ¬aD ts m=Src.jR from h)] at hp
 simp only[go_sem,n1,n2]
 exact AP ts m fin aa rfl (by simp only[go_sem,n1,n2]) (by simp only[go_sem,n1,n2]) (InF.go hin) hp.symm
section
structure SmK (ts:List Src.Tok) (fin k:Nat):Prop where
 stmt:∀(n:Nat),n≤ts.length→4*(ts.length-n)+4≤k→eF 83 [] ts n fin (iZ ts k n) smV
 body:∀(n:Nat),n≤ts.length→4*(ts.length-n)+6≤k→eF 132 [] ts n fin (gY ts k n) jz
 stmts:∀(n:Nat),n≤ts.length→4*(ts.length-n)+5≤k→eF 59 [] ts n fin (cO ts k [] n) jz
variable {ts:List Src.Tok}{fin k n:Nat}
theorem JU (hl:ts.length≤100000) (ih:SmK ts fin k) (hnl:n≤ts.length) (hk:4*(ts.length-n)+4≤k+1):eF 83 [] ts n fin (iZ ts (k+1) n) smV:=by
 intro B g ob hB hf ho
 refine al B [125] ac mixed Tryz.func83 rfl b9 [.cell 2 48] rfl c8 c8 (by simp[Tryz.ntmps83]) (by simp;omega) hf fun b₀ β0 s0 w0=>?_
 have n1:=nlo hB
 have n2:=nhi hB
 have hin:InF B g ob g ob:=InF.refl
 have hf1:=hf
 obtain⟨p,hp⟩:∃p,iZ ts (k+1) n=p:=⟨_,rfl⟩
 rw[hp]
 rw[iZ] at hp
 simp only[go_sem,n1,n2]
 refine bP ts n fin [112,117,116] aa rfl (by simp only[go_sem,n1,n2]) (B+55) a6 (fi hf1) (by simp only[go_sem,n1,n2,ho]) a6 (fun h=>?_) (fun h=>?_)
 ·rw[if_pos h] at hp
  have hlt:=Src.cq h a7
  simp only[go_sem,n1,n2]
  refine ay aa rfl (uY hl (k:=k) (n:=n+1) a6 a6) (by simp only[go_sem,n1,n2];all_goals rfl) (B+55) a6 (fi hf1) (by simp only[go_sem,n1,n2]) (InF.go hin) (fun m h=>by rw[←hp,h];rfl) ?_
  intro l m he
  rw[he,PR.bind_ok] at hp
  have hm3:=Src.pG l m he
  simp only[go_sem,n1,n2,jg]
  refine bC ts m fin aa rfl [[59]] (B+13) (by simp only[go_sem,n1,n2];all_goals rfl) (B+55) a6 (fi hf1) (by simp only[go_sem,n1,n2]) (by simp;omega) a6 a6 (by simp only[go_sem,n1,n2,bJ]) (InF.go hin) (fun m h=>by rw[←hp,show Src.jS=[59] from rfl,h];rfl) ?_
  intro m3 hm
  rw[show Src.jS=[59] from rfl,hm,PR.bind_ok] at hp
  simp only[go_sem,n1,n2]
  refine⟨_,ag.refl _,?_⟩
  simp only[go_sem,n1,n2]
  exact InF.ret (n:=m3) (a:=.mk 3 [] l [] []) (InF.go hin) (by simp only[go_sem,n1,n2]) hp.symm (nf (.d _) .nil .nil) (by simp[pack,smV,smD,qy,bh])
 rw[if_neg h] at hp
 simp only[go_sem,n1,n2]
 refine bP ts n fin [114,101,116,117,114,110] aa rfl (by simp only[go_sem,n1,n2]) (B+55) a6 (fi hf1) (by simp only[go_sem,n1,n2,ho]) a6 (fun h=>?_) (fun h=>?_)
 ·rw[if_pos h] at hp
  have hlt:=Src.cq h a7
  simp only[go_sem,n1,n2]
  refine bP ts (n+1) fin [59] aa rfl (by simp only[go_sem,n1,n2]) (B+55) a6 (fi hf1) (by simp only[go_sem,n1,n2]) a6 (fun h=>?_) (fun h=>?_)
  ·rw[if_pos (show aD ts (n+1)=Src.jS from h)] at hp
   simp only[go_sem,n1,n2]
   refine⟨_,ag.refl _,?_⟩
   simp only[go_sem,n1,n2]
   exact InF.ret (n:=n+2) (a:=.mk 7 [] [] [] []) (InF.go hin) (by simp only[go_sem,n1,n2]) hp.symm (nf .nil .nil .nil) (by simp[pack,smV,smD,qy,qx])
  rw[if_neg (show ¬aD ts (n+1)=Src.jS from h)] at hp
  simp only[go_sem,n1,n2]
  refine ay aa rfl ((AQ fin hl k).expr 1 (n+1) a6 a6 a6 a6) (by simp only[go_sem,n1,n2];all_goals rfl) (B+55) a6 (fi hf1) (by simp only[go_sem,n1,n2]) (InF.go hin) (fun m h=>by rw[←hp,h];rfl) ?_
  intro e m2 he
  rw[he,PR.bind_ok] at hp
  have hm3:=Src.fE k 1 (n+1) e m2 he
  simp only[go_sem,n1,n2,exV,cV,j5]
  refine bC ts m2 fin aa rfl [[59]] (B+28) (by simp only[go_sem,n1,n2];all_goals rfl) (B+55) a6 (fi hf1) (by simp only[go_sem,n1,n2]) (by simp;omega) a6 a6 (by simp only[go_sem,n1,n2,bJ]) (InF.go hin) (fun m h=>by rw[←hp,show Src.jS=[59] from rfl,h];rfl) ?_
  intro m3 hm
  rw[show Src.jS=[59] from rfl,hm,PR.bind_ok] at hp
  simp only[go_sem,n1,n2]
  refine⟨_,ag.refl _,?_⟩
  simp only[go_sem,n1,n2]
  exact InF.ret (n:=m3) (a:=.mk 7 [] [e] [] []) (InF.go hin) (by simp only[go_sem,n1,n2]) hp.symm (nf (mJ (l:=[e]) a6 (by simp only[go_sem,n1,n2]) (by simp only[go_sem,n1,n2,mI]) rfl) .nil .nil) (by simp[pack,smV,smD,qy])
 rw[if_neg h] at hp
 simp only[go_sem,n1,n2]
 refine bP ts n fin [105,102] aa rfl (by simp only[go_sem,n1,n2]) (B+55) a6 (fi hf1) (by simp only[go_sem,n1,n2,ho]) a6 (fun h=>?_) (fun h=>?_)
 ·rw[if_pos h] at hp
  have hlt:=Src.cq h a7
  simp only[go_sem,n1,n2]
  refine ay aa rfl (uY hl (k:=k) (n:=n+1) a6 a6) (by simp only[go_sem,n1,n2];all_goals rfl) (B+55) a6 (fi hf1) (by simp only[go_sem,n1,n2]) (InF.go hin) (fun m h=>by rw[←hp,h];rfl) ?_
  intro l m he
  rw[he,PR.bind_ok] at hp
  have hm3:=Src.pG l m he
  have hm3':=Src.nE l m he
  simp only[go_sem,n1,n2,jg]
  refine ay aa rfl (ih.body m a6 a6) (by simp only[go_sem,n1,n2];all_goals rfl) (B+55) a6 (fi hf1) (by simp only[go_sem,n1,n2]) (InF.go hin) (fun m h=>by rw[←hp,h];rfl) ?_
  intro th m2 he
  rw[he,PR.bind_ok] at hp
  have hm4:=Src.sx k m th m2 he
  have hm4':=Src.pF k m th m2 he
  simp only[go_sem,n1,n2,jz]
  refine bP ts m2 fin [101,108,115,101] aa rfl (by simp only[go_sem,n1,n2]) (B+55) a6 (fi hf1) (by simp only[go_sem,n1,n2]) a6 (fun h=>?_) (fun h=>?_)
  ·rw[if_pos h] at hp
   have hlt:=Src.cq h a7
   simp only[go_sem,n1,n2]
   refine ay aa rfl (ih.body (m2+1) a6 a6) (by simp only[go_sem,n1,n2];all_goals rfl) (B+55) a6 (fi hf1) (by simp only[go_sem,n1,n2]) (InF.go hin) (fun m h=>by rw[←hp,h];rfl) ?_
   intro el m5 he
   rw[he,PR.bind_ok] at hp
   simp only[go_sem,n1,n2,jz]
   refine⟨_,ag.refl _,?_⟩
   simp only[go_sem,n1,n2]
   exact InF.ret (n:=m5) (a:=.mk 4 [] l th el) (InF.go hin) (by simp only[go_sem,n1,n2]) hp.symm (nf (.d _) (.d _) (.d _)) (by simp[pack,smV,smD,fD,bh])
  rw[if_neg h] at hp
  simp only[go_sem,n1,n2]
  refine⟨_,ag.refl _,?_⟩
  simp only[go_sem,n1,n2]
  exact InF.ret (n:=m2) (a:=.mk 4 [] l th []) (InF.go hin) (by simp only[go_sem,n1,n2]) hp.symm (nf (.d _) (.d _) .nil) (by simp[pack,smV,smD,fD,bh])
 rw[if_neg h] at hp
 simp only[go_sem,n1,n2]
 refine bP ts n fin [119,104,105,108,101] aa rfl (by simp only[go_sem,n1,n2]) (B+55) a6 (fi hf1) (by simp only[go_sem,n1,n2,ho]) a6 (fun h=>?_) (fun h=>?_)
 ·rw[if_pos h] at hp
  have hlt:=Src.cq h a7
  simp only[go_sem,n1,n2]
  refine ay aa rfl (uY hl (k:=k) (n:=n+1) a6 a6) (by simp only[go_sem,n1,n2];all_goals rfl) (B+55) a6 (fi hf1) (by simp only[go_sem,n1,n2]) (InF.go hin) (fun m h=>by rw[←hp,h];rfl) ?_
  intro l m he
  rw[he,PR.bind_ok] at hp
  have hm3:=Src.pG l m he
  have hm3':=Src.nE l m he
  simp only[go_sem,n1,n2,jg]
  refine ay aa rfl (ih.body m a6 a6) (by simp only[go_sem,n1,n2];all_goals rfl) (B+55) a6 (fi hf1) (by simp only[go_sem,n1,n2]) (InF.go hin) (fun m h=>by rw[←hp,h];rfl) ?_
  intro th m2 he
  rw[he,PR.bind_ok] at hp
  simp only[go_sem,n1,n2,jz]
  refine⟨_,ag.refl _,?_⟩
  simp only[go_sem,n1,n2]
  exact InF.ret (n:=m2) (a:=.mk 5 [] l th []) (InF.go hin) (by simp only[go_sem,n1,n2]) hp.symm (nf (.d _) (.d _) .nil) (by simp[pack,smV,smD,fD,bh])
 rw[if_neg h] at hp
 simp only[go_sem,n1,n2]
 refine ay aa rfl (GE hl (k:=k) (n:=n) a6 a6) (by simp only[go_sem,n1,n2];all_goals rfl) (B+55) a6 (fi hf1) (by simp only[go_sem,n1,n2,ho]) (InF.go hin) (fun m h=>by rw[←hp,h]) ?_
 intro e m2 he
 rw[he] at hp
 obtain⟨ek,es,e1,e2,e3⟩:=e
 simp only[go_sem,n1,n2,smV,smD]
 refine⟨_,ag.refl _,?_⟩
 simp only[go_sem,n1,n2]
 exact InF.ret (n:=m2) (a:=.mk ek es e1 e2 e3) (InF.go hin) (by simp only[go_sem,n1,n2]) hp.symm (nf (.d _) (.d _) (.d _)) (by simp[pack,smV,smD])
theorem JV (hl:ts.length≤100000) (ih:SmK ts fin k) (hnl:n≤ts.length) (hk:4*(ts.length-n)+6≤k+1):eF 132 [] ts n fin (gY ts (k+1) n) jz:=by
 intro B g ob hB hf ho
 refine al B [125] ac mixed Tryz.func132 rfl b9 [.tmp 2] rfl c8 c8 (by simp[Tryz.ntmps132]) (by simp;omega) hf fun b₀ β0 s0 w0=>?_
 have n1:=nlo hB
 have n2:=nhi hB
 have hin:InF B g ob g ob:=InF.refl
 have hf1:=hf
 obtain⟨p,hp⟩:∃p,gY ts (k+1) n=p:=⟨_,rfl⟩
 rw[hp]
 rw[gY] at hp
 simp only[go_sem,n1,n2]
 refine bC ts n fin aa rfl [[123]] (B+4) (by simp only[go_sem,n1,n2];all_goals rfl) (B+8) a6 (fi hf1) (by simp only[go_sem,n1,n2,ho]) (by simp;omega) a6 a6 (by simp only[go_sem,n1,n2,bJ]) (InF.go hin) (fun m h=>by rw[←hp,h];rfl) ?_
 intro m hm
 rw[hm,PR.bind_ok] at hp
 have hm1:=Src.bZ (ts:=ts) a7 () m hm
 have hm2:=Src.bX () m hm
 simp only[go_sem,n1,n2]
 refine ay aa rfl (ih.stmts m a6 a6) (by simp only[go_sem,n1,n2];all_goals rfl) (B+8) a6 (fi hf1) (by simp only[go_sem,n1,n2]) (InF.go hin) (fun m h=>by rw[←hp,h]) ?_
 intro l m2 he
 rw[he] at hp
 simp only[go_sem,n1,n2,jz]
 refine⟨_,ag.refl _,?_⟩
 simp only[go_sem,n1,n2]
 exact InF.ret (n:=m2) (a:=l) (rs:=[jz l]) (InF.go hin) (by simp only[go_sem,n1,n2]) hp.symm ⟨_,_,rfl,.one (.d _),rfl⟩ rfl
theorem Gb (hl:ts.length≤100000) (ih:∀j,j≤k→SmK ts fin j) (hnl:n≤ts.length) (hk:4*(ts.length-n)+5≤k+1):eF 59 [] ts n fin (cO ts (k+1) [] n) jz:=by
 intro B g ob hB hf ho
 refine al B [125] ac mixed Tryz.func59 rfl b9 [.tmp 2] rfl c8 c8 (by simp[Tryz.ntmps59]) (by simp;omega) hf fun b₀ β0 s0 w0=>?_
 have n1:=nlo hB
 have n2:=nhi hB
 obtain⟨p,hp⟩:∃p,cO ts (k+1) [] n=p:=⟨_,rfl⟩
 rw[hp]
 simp only[go_sem,n1,n2]
 refine ap (fun z st=>∃(j n':Nat) (acc:List Stm),z+n'=ts.length∧acc.length≤n'∧4*(ts.length-n')+5≤j∧j≤k+1∧st.f 0=.one (.ptr 125 (g 125) 0)∧((acc=[]∧st.f 3=.one (.d .nsl))∨(st.f 3=.one (.osl (B+11) (st.gen (B+11)) 5 0 acc.length)∧st.obj (B+11)=some (smC acc)))∧st.obj 125=some (rdC ts n' fin)∧InF B g ob st.gen st.obj∧(∀i,B+13≤i→st.obj i=none)∧cO ts j acc n'=p) (ts.length-n) ?_ ?_
 ·refine⟨k+1,n,[],a6,a7,a6,j9 _,?_⟩
  simp only[go_sem,n1,n2]
  exact⟨.inl trivial,ho,InF.refl,fun i hi=>hf i a6,hp⟩
 clear hp
 rintro z f g1 ob1 ⟨j,n',acc,hz,hacc,hj,hjk,q0,q3,o125,hin,hf1,hp⟩
 simp only at q0 q3 o125 hin hf1
 obtain⟨j,rfl⟩:∃i,j=i+1:=⟨j-1,a6⟩
 rw[cO] at hp
 have hg:=hin.rd
 simp only[go_sem,q0]
 refine bP ts n' fin [125] aa rfl (by simp only[go_sem,n1,n2,hg,q0]) (B+13) a6 (fi hf1) (by simp only[go_sem,n1,n2,o125]) a6 (fun h=>?_) (fun h=>?_)
 ·rw[if_pos h] at hp
  rcases q3 with⟨rfl,q3⟩|⟨q3,o3⟩
  ·simp only[go_sem,n1,n2,q0,q3]
   refine⟨_,ag.refl _,?_⟩
   simp only[go_sem,n1,n2,q3]
   exact InF.ret (n:=n'+1) (a:=[]) (rs:=[.one (.d (.sl []))]) (InF.go hin) (by simp only[go_sem,n1,n2]) hp.symm ⟨_,_,rfl,.one .nil,rfl⟩ rfl
  ·simp only[go_sem,n1,n2,q0,q3]
   refine⟨_,ag.refl _,?_⟩
   simp only[go_sem,n1,n2,q3]
   exact InF.ret (n:=n'+1) (a:=acc) (InF.go hin) (by simp only[go_sem,n1,n2]) hp.symm (GD a6 (by simp only[go_sem,n1,n2]) (by simp only[go_sem,n1,n2,o3]) rfl) rfl
 rw[if_neg h] at hp
 have hst:=(ih j a6).stmt n' a6 a6
 rcases q3 with⟨rfl,q3⟩|⟨q3,o3⟩
 ·simp only[go_sem,n1,n2,q0,q3]
  refine ay aa rfl hst (by simp only[go_sem,n1,n2,hg,q0];all_goals rfl) (B+13) a6 (fi hf1) (by simp only[go_sem,n1,n2,o125]) (InF.go hin) (fun m h=>by rw[←hp,h];rfl) ?_
  intro e m he
  rw[he,PR.bind_ok] at hp
  have hm1:=Src.Ey j n' e m he
  have hm2:=Src.Bx j n' e m he
  simp only[go_sem,n1,n2,smV,jP,j5,q0,q3,aH]
  refine⟨⟨a8,a6⟩,?_⟩
  refine ah (ts.length-m) a6 ⟨j,m,[]++[e],a6,by simp;omega,a6,a6,?_⟩
  simp only[go_sem,n1,n2,q0,q3]
  refine⟨.inr ?_,(InF.go hin),(fi hf1),hp⟩
  rw[l6 (by simp[jP])]
  simp[smC]
 ·have hcl:=zF acc
  simp only[go_sem,n1,n2,q0,q3]
  refine ay aa rfl hst (by simp only[go_sem,n1,n2,hg,q0];all_goals rfl) (B+13) a6 (fi hf1) (by simp only[go_sem,n1,n2,o125]) (InF.go hin) (fun m h=>by rw[←hp,h];rfl) ?_
  intro e m he
  rw[he,PR.bind_ok] at hp
  have hm1:=Src.Ey j n' e m he
  have hm2:=Src.Bx j n' e m he
  simp only[go_sem,n1,n2,smV,jP,j5,q0,q3,o3,hcl,aH]
  refine⟨a6,⟨a8,a6⟩,?_⟩
  refine ah (ts.length-m) a6 ⟨j,m,acc++[e],a6,by rw[j4];simp;omega,a6,a6,?_⟩
  simp only[go_sem,n1,n2,q0,q3,j4]
  refine⟨.inr ?_,(InF.go hin),(fi hf1),hp⟩
  rw[l6 a6,zH,zG,l6 (by simp[jP])]
theorem Re (fin:Nat) (hl:ts.length≤100000) (k:Nat):SmK ts fin k:=by
 induction k using Nat.strongRecOn with
 |ind k ih=>
   cases k with
   |zero=>exact⟨fun _ _ h=>absurd h a6,fun _ _ h=>absurd h a6,fun _ _ h=>absurd h a6⟩
   |succ k=>exact⟨fun n h1 h2=>JU hl (ih k a6) h1 h2,fun n h1 h2=>JV hl (ih k a6) h1 h2,fun n h1 h2=>Gb hl (fun j hj=>ih j a6) h1 h2⟩
end
end
end Go.Proofs.YtbojbioflppbdaaGreatDoor
namespace Go.Am
section
attribute [local congr] Go.Am.ite_cc
theorem kx {P:Program}{rd:Option Nat}{b₀:Bs}{Φ:St→Loc→List Deferred→World→Prop}{B0:Nat}{Ψ:fP}{B:(Exit→St→Prop)→St→Prop}{b:Box B}{Q:Exit→St→Prop}{q:Box Q}{s:St} (s₁:St) (hv:ag s s₁) (I:Nat→St→Prop) (n:Nat) (h0:I n s₁)
  (hr:∀n f g ob,I n ⟨f,g,ob⟩→B (kh (bx fun s'=>∃n' s₁,n'<n∧(spF P rd b₀ Φ B0 Ψ).vs s' s₁∧I n' s₁) q) ⟨f,g,ob⟩):qT (spF P rd b₀ Φ B0 Ψ) b q s:=
 ⟨I,⟨n,s₁,hv,h0⟩,fun n s hs=>hr n s.f s.gen s.obj hs⟩
end
end Go.Am
namespace Go.Proofs.YtbojbioflppbdaaGreatDoor
section
attribute [local congr] Go.Am.ite_cc
open Go Go.Am Go.Asm
open Go.Src (PR du aD takeN bA Ex Stm dY cO dj lH)
def fnD (f:Src.Fn):List D:=[.str f.name,.sl (f.params.map fun s=>[.str s]),.sl (f.locals.map fun s=>[.str s]),.bool f.word,.sl (f.body.map smD)]
theorem Gc (f:Src.Fn):(fnD f).length=5:=rfl
def fnV (f:Src.Fn):AV:=.agg ((fnD f).map .d)
theorem zt {P:Nat→Prop}{s:St}{id g n:Nat}{l:List Str} (hid:P id) (hg:s.gen id=g) (ho:s.obj id=some (bJ l)) (hn:l.length=n):dU P s (.osl id g 1 0 n) (.sl (l.map fun s=>[.str s])):=
 cg hid hg l (fun s=>[.str s]) ho (by unfold bJ;clear ho hn;induction l with|nil=>rfl|cons a l ih=>simpa using ih) (fun _ _=>rfl) hn
theorem zu (l:List Str):((l.map fun s=>([.str s]:List D)).flatten).map C.d=bJ l:=by
 unfold bJ
 induction l with
 |nil=>rfl
 |cons a l ih=>simpa using ih
theorem IC {ts:List Src.Tok}{fin k n:Nat} (hl:ts.length≤100000) (hnl:n≤ts.length) (hk:4*(ts.length-n)+5≤k):eF 40 [] ts n fin (lH ts k n) fnV:=by
 intro B g ob hB hf ho
 refine al B [125] ac mixed Tryz.func40 rfl b9 [.cell 2 50] rfl c8 c8 (by simp[Tryz.ntmps40]) (by simp;omega) hf fun b₀ β0 s0 w0=>?_
 have n1:=nlo hB
 have n2:=nhi hB
 have hin:InF B g ob g ob:=InF.refl
 have hf1:=hf
 obtain⟨p,hp⟩:∃p,lH ts k n=p:=⟨_,rfl⟩
 rw[hp]
 rw[lH] at hp
 simp only[go_sem,n1,n2]
 refine bC ts n fin aa rfl [[102,117,110,99]] (B+5) (by simp only[go_sem,n1,n2];all_goals rfl) (B+44) a6 (fi hf1) (by simp only[go_sem,n1,n2,ho]) (by simp;omega) a6 a6 (by simp only[go_sem,n1,n2,bJ]) (InF.go hin) (fun m h=>by rw[←hp,h];rfl) ?_
 intro m hm
 rw[hm,PR.bind_ok] at hp
 have hm1:=Src.bZ (ts:=ts) a7 () m hm
 have hm2:=Src.bX () m hm
 simp only[go_sem,n1,n2]
 refine ay aa rfl (mf ts m fin 1 a6 a8) (by simp only[go_sem,n1,n2];all_goals rfl) (B+44) a6 (fi hf1) (by simp only[go_sem,n1,n2]) (InF.go hin) (fun m h=>by rw[←hp,h];rfl) ?_
 intro t m3 ht
 rw[ht,PR.bind_ok] at hp
 have hm3:=Src.iN t m3 ht
 have hm4:=Src.ff t m3 ht
 unfold mV lh
 simp only[go_sem,n1,n2]
 refine bC ts m3 fin aa rfl [[40]] (B+12) (by simp only[go_sem,n1,n2];all_goals rfl) (B+44) a6 (fi hf1) (by simp only[go_sem,n1,n2]) (by simp;omega) a6 a6 (by simp only[go_sem,n1,n2,bJ]) (InF.go hin) (fun m h=>by rw[←hp,show Src.jR=[40] from rfl,h];rfl) ?_
 intro m5 hm
 rw[show Src.jR=[40] from rfl,hm,PR.bind_ok] at hp
 have hm5:=Src.bZ (ts:=ts) a7 () m5 hm
 have hm6:=Src.bX () m5 hm
 simp only[go_sem,n1,n2]
 refine tN ts m5 fin aa rfl (by simp only[go_sem,n1,n2]) (by simp only[go_sem,n1,n2]) ?_
 by_cases h1:du ts m5=1
 case' pos=>
  rw[if_pos h1] at hp
  have h1i:(du ts m5:Int)=1:=a6
  simp only[go_sem,h1i,n1,n2]
  refine ay aa rfl (uX hl (k:=k) (n:=m5) a6 a6) (by simp only[go_sem,n1,n2];all_goals rfl) (B+44) a6 (fi hf1) (by simp only[go_sem,n1,n2]) (InF.go hin) (fun m h=>by rw[←hp,h];rfl) ?_
  intro ps m7 he
  rw[he,PR.bind_ok] at hp
  have hm7:m7≤ts.length:=by have:=Src.pI ps m7 he;omega
  have hm7':m5≤m7:=by have:=Src.sw ps m7 he;omega
  obtain⟨cx,hfx,hcx⟩:∃cx:C,(∀s:St,dU (B≤·) s cx (.sl (ps.map fun s=>[.str s])))∧cx=.d (.sl (ps.map fun s=>[D.str s])):=⟨_,fun s=>.d _,rfl⟩
  simp only[go_sem,n1,n2,jy]
  clear he h1i h1
 case' neg=>
  have h1i:¬(du ts m5:Int)=1:=a6
  simp only[go_sem,h1i,n1,n2]
  obtain⟨ps,hps⟩:∃ps:List Str,ps=[]:=⟨_,rfl⟩
  obtain⟨m7,hm7e⟩:∃m7,m7=m5:=⟨_,rfl⟩
  have e7:(PR.ok ([]:List Str) m5)=PR.ok ps m7:=by rw[hps,hm7e]
  rw[if_neg h1,e7,PR.bind_ok] at hp
  obtain⟨cx,hfx,hcx⟩:∃cx:C,(∀s:St,dU (B≤·) s cx (.sl (ps.map fun s=>[.str s])))∧cx=.d .nsl:=⟨_,fun s=>by rw[hps];exact .nil,rfl⟩
  clear h1i h1 e7
  have hm7:m7≤ts.length:=a6
  have hm7':m5≤m7:=a6
  rw[←hm7e]
  clear hm7e hps
 all_goals
  refine bC ts m7 fin aa rfl [[41]] (B+21) (by simp only[go_sem,n1,n2];all_goals rfl) (B+44) a6 (fi hf1) (by simp only[go_sem,n1,n2]) (by simp;omega) a6 a6 (by simp only[go_sem,n1,n2,bJ]) (InF.go hin) (fun m h=>by rw[←hp,show Src.ir=[41] from rfl,h];rfl) ?_
  intro m8 hm
  rw[show Src.ir=[41] from rfl,hm,PR.bind_ok] at hp
  have hm8:=Src.bZ (ts:=ts) a7 () m8 hm
  have hm8':=Src.bX () m8 hm
  simp only[go_sem,n1,n2]
  by_cases h:aD ts m8=[119,111,114,100]
  case' pos=>
   have hlt:=Src.cq h a7
   refine bP ts m8 fin [119,111,114,100] aa rfl (by simp only[go_sem,n1,n2]) (B+44) a6 (fi hf1) (by simp only[go_sem,n1,n2]) a6 (fun _=>?_) (fun h'=>absurd h h')
   obtain⟨w,hw⟩:∃w,w=true:=⟨_,rfl⟩
   obtain⟨m9,hm9⟩:∃m9,m9=m8+1:=⟨_,rfl⟩
   rw[if_pos h,E8 h,←hw,←hm9] at hp
   rw[←hm9]
   simp only[go_sem,n1,n2]
  case' neg=>
   refine bP ts m8 fin [119,111,114,100] aa rfl (by simp only[go_sem,n1,n2]) (B+44) a6 (fi hf1) (by simp only[go_sem,n1,n2]) a6 (fun h'=>absurd h' h) (fun _=>?_)
   obtain⟨w,hw⟩:∃w,w=false:=⟨_,rfl⟩
   obtain⟨m9,hm9⟩:∃m9,m9=m8:=⟨_,rfl⟩
   rw[if_neg h,y9 h,←hw,←hm9] at hp
   rw[←hm9]
   simp only[go_sem,n1,n2]
  all_goals
   clear h
   have hm9a:m9≤ts.length:=a6
   have hm9b:m8≤m9:=a6
   refine bC ts m9 fin aa rfl [[123]] (B+27) (by simp only[go_sem,n1,n2];all_goals rfl) (B+44) a6 (fi hf1) (by simp only[go_sem,n1,n2]) (by simp;omega) a6 a6 (by simp only[go_sem,n1,n2,bJ]) (InF.go hin) (fun m h=>by rw[←hp,h];rfl) ?_
   intro m10 hm
   rw[hm,PR.bind_ok] at hp
   have hm10:=Src.bZ (ts:=ts) a7 () m10 hm
   have hm10':=Src.bX () m10 hm
   simp only[go_sem,n1,n2]
   refine kx _ (cD (t:=3) (o:=B+3) (b:=B+35) (j:=2) (sz:=1) (off:=0) (cells:=[.d (.str t.text),cx,.d .nsl,.d (.bool w),.d .nsl]) (by simp only[go_sem,n1,n2]) (by simp only[go_sem,n1,n2,hcx,hw]) rfl a6)
    (fun z st=>∃(j n':Nat) (acc:List Str),z+n'=ts.length∧acc.length≤n'∧ts.length-n'+1≤j∧m10≤n'∧st.f 0=.one (.ptr 125 (g 125) 0)∧st.f 2=.one (.ptr (B+2) (st.gen (B+2)) 0)∧st.f 3=.one (.ptr (B+3) (st.gen (B+3)) 0)∧(∃a b c d e,st.obj (B+2)=some [a,b,c,d,e])∧
      st.obj (B+3)=some [.d (.str t.text),cx,.osl (B+35) (st.gen (B+35)) 1 0 acc.length,.d (.bool w),.d .nsl]∧st.obj (B+35)=some (bJ acc)∧st.obj 125=some (rdC ts n' fin)∧InF B g ob st.gen st.obj∧(∀i,B+44≤i→st.obj i=none)∧
      ((dj ts j acc n').bind fun ls m=>(cO ts k [] m).bind fun b m=>Src.PR.ok { name:=t.text,params:=ps,locals:=ls,word:=w,body:=b } m)=p) (ts.length-m10) ?_ ?_
   ·simp only[St.claimAt]
    refine⟨k,m10,[],a6,a7,a6,j9 _,?_⟩
    simp only[go_sem,n1,n2]
    exact⟨⟨_,_,_,_,_,rfl,rfl,rfl,rfl,rfl⟩,rfl,(InF.go hin),(fi hf1),hp⟩
   clear hf1 hin hp
   rintro z f g1 ob1 ⟨j,n',acc,hz,hacc,hj,hmn,q0,q2,q3,⟨a,b,c,d,e,o2⟩,o3,o35,o125,hin,hf1,hp⟩
   simp only at q0 q2 q3 o2 o3 o35 o125 hin hf1
   obtain⟨j,rfl⟩:∃i,j=i+1:=⟨j-1,a6⟩
   rw[dj] at hp
   have hg:=hin.rd
   simp only[go_sem,q0]
   refine bP ts n' fin [118,97,114] aa rfl (by simp only[go_sem,n1,n2,hg,q0]) (B+44) a6 (fi hf1) (by simp only[go_sem,n1,n2,o125]) a6 (fun h=>?_) (fun h=>?_)
   ·rw[if_pos h] at hp
    have hlt:=Src.cq h a7
    have hcl:=pp acc
    simp only[go_sem,n1,n2,q0]
    obtain⟨ls,m',hgl,hlook⟩:=IE (dY ts j (n'+1)) (G:=fun l=>l.length≤100000) [] a7 (fun l m h=>by have:=Src.yK h;have:=Src.pI l m h;omega)
    refine jn (∃a m,dY ts j (n'+1)=.ok a m) ac mixed aa [B+35,125] [([3],[1],[],false),([31],[1],[],false),([0],[],[],false),([33],[],[1],false),([32,34],[],[0],false),([3],[0,1],[],false),([36,35],[],[],true)] 2 rfl c9 rfl (by simp;omega) ?_
    simp only[go_sem]
    (apply bw;(case hf=>rfl);(case hg=>first|exact s9|exact⟨_,rfl,by decide,rfl⟩);(case h1=>intro fa ga oa K' hK;simp only[go_sem,n1,n2,q3,o3] at hK ⊢;exact hK))
    (apply bw;(case hf=>rfl);(case hg=>first|exact s9|exact⟨_,rfl,by decide,rfl⟩);(case h1=>intro fa ga oa K' hK;simp only[go_sem,n1,n2,q3,o3] at hK ⊢;exact hK))
    (apply bw;(case hf=>rfl);(case hg=>first|exact s9|exact⟨_,rfl,by decide,rfl⟩);(case h1=>intro fa ga oa K' hK;simp only[go_sem,q0] at hK ⊢;exact hK))
    refine jo (v:=jy ls) (y:=some (rdC ts m' fin)) s9 a7 (fun fa ga oa K' hK=>?_) ?_
    ·simp only[go_sem,n1,n2] at hK ⊢
     refine ay (k:=bx K') aa rfl (uX hl (k:=j) (n:=n'+1) a6 a6) (by simp only[go_sem,n1,n2,hg];all_goals rfl) (B+44) a6 (fi hf1) (by simp only[go_sem,n1,n2]) (InF.go hin) (fun m h=>by rw[←hp,h];rfl) ?_
     intro a2 q2 h2
     have e:=hlook ⟨_,_,h2⟩
     rw[h2] at e
     cases e
     simp only[go_sem,n1,n2]
     exact hK ⟨_,_,h2⟩
    refine iE (a:=0) (v:=.one (.osl (B+35) (nxC (apC 9 (g1 (B+35)) 0) (g1 (B+35))) 1 0 (acc.length+ls.length))) (x:=nxC (apC 9 (g1 (B+35)) 0) (g1 (B+35))) (y:=some (bJ (acc++ls))) rfl s9 (fun fa ga oa K' hK=>?_) ?_
    ·simp only[go_sem,n1,n2,jy,o35,hcl,aH,j5] at hK ⊢
     have e1:List.take acc.length (bJ acc)++List.map C.d (List.map (fun s=>([D.str s]:List D)) ls).flatten=bJ (acc++ls):=by
      rw[l6 a6,zu]
      simp[bJ]
     rw[e1]
     exact⟨j9 _,fun e he=>by obtain⟨x,_,rfl⟩:=G8.1 he;rfl,⟨a8,a6⟩,hK⟩
    (apply bw;(case hf=>rfl);(case hg=>first|exact s9|exact⟨_,rfl,by decide,rfl⟩);(case h1=>intro fa ga oa K' hK;simp only[go_sem,n1,n2,q3,o3] at hK ⊢;exact hK))
    refine jp rfl s9 ?_
    intro K' hK'
    simp only[go_sem,n1,n2,o3]
    refine hK' _ ?_
    clear hK' K'
    intro hz'
    have e:=hlook hz'
    rw[e,PR.bind_ok] at hp
    have hm1:=Src.pI ls m' e
    have hm2:=Src.sw ls m' e
    have hm3:=Src.yK e
    simp only[go_sem,n1,n2,q0]
    refine bC ts m' fin aa rfl [[59]] (B+38) (by simp only[go_sem,n1,n2,hg];all_goals rfl) (B+44) a6 (fi hf1) (by simp only[go_sem,n1,n2]) (by simp;omega) a6 a6 (by simp only[go_sem,n1,n2,bJ]) (InF.go hin) (fun m h=>by rw[←hp,show Src.jS=[59] from rfl,h];rfl) ?_
    intro m4 hm
    rw[show Src.jS=[59] from rfl,hm,PR.bind_ok] at hp
    have hm4:=Src.bZ (ts:=ts) a7 () m4 hm
    have hm5:=Src.bX () m4 hm
    simp only[go_sem,n1,n2]
    refine ah (ts.length-m4) a6 ⟨j,m4,acc++ls,a6,by rw[j4];omega,a6,a6,?_⟩
    simp only[go_sem,n1,n2,q0,q2,q3,j4]
    exact⟨⟨_,_,_,_,_,o2⟩,(InF.go hin),(fi hf1),hp⟩
   ·rw[if_neg h,PR.bind_ok] at hp
    simp only[go_sem,n1,n2,q0]
    refine ay aa rfl ((Re fin hl k).stmts n' a6 a6) (by simp only[go_sem,n1,n2,hg,q0];all_goals rfl) (B+44) a6 (fi hf1) (by simp only[go_sem,n1,n2,o125]) (InF.go hin) (fun m h=>by rw[←hp,h];rfl) ?_
    intro bd m4 he
    rw[he,PR.bind_ok] at hp
    simp only[go_sem,n1,n2,q2,q3,o2,o3,jz]
    refine⟨_,ag.refl _,?_⟩
    simp only[go_sem,n1,n2,q2]
    refine InF.ret (n:=m4) (a:=⟨t.text,ps,acc,w,bd⟩) (rs:=[.agg [.d (.str t.text),.d (.sl (ps.map fun s=>[.str s])),.d (.sl (acc.map fun s=>[.str s])),.d (.bool w),.d (.sl (bd.map smD))]]) (InF.go hin) (by simp only[go_sem,n1,n2]) hp.symm ?_ rfl
    exact⟨_,_,rfl,.agg (xs:=[.str t.text,.sl (ps.map fun s=>[.str s]),.sl (acc.map fun s=>[.str s]),.bool w,.sl (bd.map smD)]) rfl (fun i e he=>by
     match i,he with
     |0,he=>cases he;exact⟨_,rfl,.d _⟩
     |1,he=>cases he;exact⟨_,rfl,hfx _⟩
     |2,he=>cases he;exact⟨_,rfl,zt a6 (by simp only[go_sem,n1,n2]) (by simp only[go_sem,n1,n2,o35]) rfl⟩
     |3,he=>cases he;exact⟨_,rfl,.d _⟩
     | 4,he=>cases he;exact⟨_,rfl,.d _⟩),rfl⟩
end
section
attribute [local congr] Go.Am.ite_cc
open Go Go.Am Go.Asm
open Go.Src (PR du aD takeN bA Ex Stm dY cO dj lH lA lB lC)
section
def arD (a:Str×Int):List D:=[.str a.1,.int .i64 a.2]
def wi (l:List (Str×Int)):List C:=l.flatMap fun a=>(arD a).map .d
theorem De (l:List (Str×Int)):(wi l).length=l.length*2:=by
 induction l with
 |nil=>rfl
 |cons a l ih=>simp only[wi,D1,j4,j5,arD,j6,j7] at ih ⊢;omega
def fnC (l:List Src.Fn):List C:=l.flatMap fun a=>(fnD a).map .d
theorem Gd (l:List Src.Fn):(fnC l).length=l.length*5:=by
 induction l with
 |nil=>rfl
 |cons a l ih=>simp only[fnC,D1,j4,j5,Gc,j6] at ih ⊢;omega
theorem zw (f:Src.Fn):fnC [f]=(fnD f).map .d:=by simp[fnC]
theorem Ge (l m:List Src.Fn):fnC (l++m)=fnC l++fnC m:=by simp[fnC]
def gU (p:Src.Prog):List D:=[.sl (p.vars.map fun s=>[.str s]),.sl (p.arrays.map arD),.sl (p.funcs.map fnD)]
def eg (p:Src.Prog):AV:=.agg ((gU p).map .d)
variable {P:Nat→Prop}{id g n:Nat}
theorem JW{s:St}{l:List (Str×Int)} (hid:P id) (hg:s.gen id=g) (ho:s.obj id=some (wi l)) (hn:l.length=n):dU P s (.osl id g 2 0 n) (.sl (l.map arD)):=
 cg hid hg l arD ho rfl (fun _ _=>rfl) hn
theorem Ot{s:St}{l:List Src.Fn} (hid:P id) (hg:s.gen id=g) (ho:s.obj id=some (fnC l)) (hn:l.length=n):dU P s (.osl id g 5 0 n) (.sl (l.map fnD)):=
 cg hid hg l fnD ho rfl (fun _ _=>rfl) hn
instance:Inhabited Src.Fn:=⟨⟨[],[],[],false,[]⟩⟩
theorem JX {ts:List Src.Tok}{fin k:Nat} (hl:ts.length≤100000) (hnum:∀t∈ts,t.num≤4294967295) (hk:4*ts.length+7≤k):eF 17 [] ts 0 fin (lC ts k 0) eg:=by
 intro B g ob hB hf ho
 refine al B [125] ac mixed Tryz.func17 rfl b9 [.cell 2 27] rfl c8 c8 (by simp[Tryz.ntmps17]) (by simp;omega) hf fun b₀ β0 s0 w0=>?_
 have n1:=nlo hB
 have n2:=nhi hB
 have hin:InF B g ob g ob:=InF.refl
 have hf1:=hf
 obtain⟨p,hp⟩:∃p,lC ts k 0=p:=⟨_,rfl⟩
 rw[hp]
 rw[lC] at hp
 simp only[go_sem,n1,n2]
 refine kx _ (((cD (t:=3) (o:=B+3) (b:=B+12) (j:=0) (sz:=1) (off:=0) (cells:=[.d .nsl,.d .nsl,.d .nsl]) (by simp only[go_sem,n1,n2]) (by simp only[go_sem,n1,n2]) rfl a6).trans
   (cD (t:=3) (o:=B+3) (b:=B+32) (j:=1) (sz:=2) (off:=0) (cells:=[.osl (B+12) (g (B+12)+1) 1 0 0,.d .nsl,.d .nsl]) (by simp only[St.claimAt];simp only[go_sem,n1,n2]) (by simp only[St.claimAt];simp only[go_sem,n1,n2]) rfl a6)).trans
   (cD (t:=3) (o:=B+3) (b:=B+45) (j:=2) (sz:=5) (off:=0) (cells:=[.osl (B+12) (g (B+12)+1) 1 0 0,.osl (B+32) (g (B+32)+1) 2 0 0,.d .nsl]) (by simp only[St.claimAt];simp only[go_sem,n1,n2]) (by simp only[St.claimAt];simp only[go_sem,n1,n2]) rfl a6))
  (fun z st=>∃(j n':Nat) (vs:List Str) (ars:List (Str×Int)),z+n'=ts.length∧vs.length≤n'∧ars.length≤n'∧ts.length-n'+1≤j∧st.f 0=.one (.ptr 125 (g 125) 0)∧st.f 2=.one (.ptr (B+2) (st.gen (B+2)) 0)∧st.f 3=.one (.ptr (B+3) (st.gen (B+3)) 0)∧(∃a b c,st.obj (B+2)=some [a,b,c])∧
    st.obj (B+3)=some [.osl (B+12) (st.gen (B+12)) 1 0 vs.length,.osl (B+32) (st.gen (B+32)) 2 0 ars.length,.osl (B+45) (st.gen (B+45)) 5 0 0]∧st.obj (B+12)=some (bJ vs)∧st.obj (B+32)=some (wi ars)∧st.obj (B+45)=some []∧st.obj 125=some (rdC ts n' fin)∧InF B g ob st.gen st.obj∧(∀i,B+65≤i→st.obj i=none)∧
    ((lA ts j vs ars n').bind fun h n=>(lH ts k n).bind fun f n=>(lB ts k [f] n).bind fun fs n=>PR.ok (Src.Prog.mk h.1 h.2 fs) n)=p) ts.length ?_ ?_
 ·simp only[St.claimAt]
  refine⟨k,0,[],[],a6,a7,a7,a6,?_⟩
  simp only[go_sem,n1,n2]
  exact⟨⟨_,_,_,rfl,rfl,rfl⟩,rfl,rfl,ho,(InF.go hin),(fi hf1),hp⟩
 clear hf1 hin hp
 rintro z f g1 ob1 ⟨j,n',vs,ars,hz,hvs,hars,hj,q0,q2,q3,⟨a,b,c,o2⟩,o3,o12,o32,o45,o125,hin,hf1,hp⟩
 simp only at q0 q2 q3 o2 o3 o12 o32 o45 o125 hin hf1
 obtain⟨j,rfl⟩:∃i,j=i+1:=⟨j-1,a6⟩
 rw[lA] at hp
 have hg:=hin.rd
 have hcv:=pp vs
 have hca:=De ars
 simp only[go_sem,q0]
 refine bP ts n' fin [118,97,114] aa rfl (by simp only[go_sem,n1,n2,hg,q0]) (B+65) a6 (fi hf1) (by simp only[go_sem,n1,n2,o125]) a6 (fun h=>?_) (fun h=>?_)
 ·rw[if_pos h] at hp
  have hlt:=Src.cq h a7
  simp only[go_sem,n1,n2,q0]
  obtain⟨ls,m',hgl,hlook⟩:=IE (dY ts j (n'+1)) (G:=fun l=>l.length≤100000) [] a7 (fun l m h=>by have:=Src.yK h;have:=Src.pI l m h;omega)
  refine jn (∃a m,dY ts j (n'+1)=.ok a m) ac mixed aa [B+12,125] [([3],[1],[],false),([8],[1],[],false),([0],[],[],false),([10],[],[1],false),([9,11],[],[0],false),([3],[0,1],[],false),([13,12],[],[],true)] 2 rfl c9 rfl (by simp;omega) ?_
  simp only[go_sem]
  (apply bw;(case hf=>rfl);(case hg=>first|exact s9|exact⟨_,rfl,by decide,rfl⟩);(case h1=>intro fa ga oa K' hK;simp only[go_sem,n1,n2,q3,o3] at hK ⊢;exact hK))
  (apply bw;(case hf=>rfl);(case hg=>first|exact s9|exact⟨_,rfl,by decide,rfl⟩);(case h1=>intro fa ga oa K' hK;simp only[go_sem,n1,n2,q3,o3] at hK ⊢;exact hK))
  (apply bw;(case hf=>rfl);(case hg=>first|exact s9|exact⟨_,rfl,by decide,rfl⟩);(case h1=>intro fa ga oa K' hK;simp only[go_sem,q0] at hK ⊢;exact hK))
  refine jo (v:=jy ls) (y:=some (rdC ts m' fin)) s9 a7 (fun fa ga oa K' hK=>?_) ?_
  ·simp only[go_sem,n1,n2] at hK ⊢
   refine ay (k:=bx K') aa rfl (uX hl (k:=j) (n:=n'+1) a6 a6) (by simp only[go_sem,n1,n2,hg];all_goals rfl) (B+65) a6 (fi hf1) (by simp only[go_sem,n1,n2]) (InF.go hin) (fun m h=>by rw[←hp,h];rfl) ?_
   intro a2 q2 h2
   have e:=hlook ⟨_,_,h2⟩
   rw[h2] at e
   cases e
   simp only[go_sem,n1,n2]
   exact hK ⟨_,_,h2⟩
  refine iE (a:=0) (v:=.one (.osl (B+12) (nxC (apC 9 (g1 (B+12)) 0) (g1 (B+12))) 1 0 (vs.length+ls.length))) (x:=nxC (apC 9 (g1 (B+12)) 0) (g1 (B+12))) (y:=some (bJ (vs++ls))) rfl s9 (fun fa ga oa K' hK=>?_) ?_
  ·simp only[go_sem,n1,n2,jy,o12,hcv,aH,j5] at hK ⊢
   have e1:List.take vs.length (bJ vs)++List.map C.d (List.map (fun s=>([D.str s]:List D)) ls).flatten=bJ (vs++ls):=by
    rw[l6 a6,zu]
    simp[bJ]
   rw[e1]
   exact⟨j9 _,fun e he=>by obtain⟨x,_,rfl⟩:=G8.1 he;rfl,⟨a8,a6⟩,hK⟩
  (apply bw;(case hf=>rfl);(case hg=>first|exact s9|exact⟨_,rfl,by decide,rfl⟩);(case h1=>intro fa ga oa K' hK;simp only[go_sem,n1,n2,q3,o3] at hK ⊢;exact hK))
  refine jp rfl s9 ?_
  intro K' hK'
  simp only[go_sem,n1,n2,o3]
  refine hK' _ ?_
  clear hK' K'
  intro hz'
  have e:=hlook hz'
  rw[e,PR.bind_ok] at hp
  have hm1:=Src.pI ls m' e
  have hm2:=Src.sw ls m' e
  have hm3:=Src.yK e
  simp only[go_sem,n1,n2,q0]
  refine bC ts m' fin aa rfl [[59]] (B+38) (by simp only[go_sem,n1,n2,hg];all_goals rfl) (B+65) a6 (fi hf1) (by simp only[go_sem,n1,n2]) (by simp;omega) a6 a6 (by simp only[go_sem,n1,n2,bJ]) (InF.go hin) (fun m h=>by rw[←hp,show Src.jS=[59] from rfl,h];rfl) ?_
  intro m4 hm
  rw[show Src.jS=[59] from rfl,hm,PR.bind_ok] at hp
  have hm4:=Src.bZ (ts:=ts) a7 () m4 hm
  have hm5:=Src.bX () m4 hm
  simp only[go_sem,n1,n2]
  refine ah (ts.length-m4) a6 ⟨j,m4,vs++ls,ars,a6,by rw[j4];omega,a6,a6,?_⟩
  simp only[go_sem,n1,n2,q0,q2,q3,j4]
  exact⟨⟨_,_,_,o2⟩,o32,o45,(InF.go hin),(fi hf1),hp⟩
 rw[if_neg h] at hp
 simp only[go_sem,n1,n2,q0]
 refine bP ts n' fin [97,114,114,97,121] aa rfl (by simp only[go_sem,n1,n2,hg,q0]) (B+65) a6 (fi hf1) (by simp only[go_sem,n1,n2,o125]) a6 (fun h=>?_) (fun h=>?_)
 ·rw[if_pos h] at hp
  have hlt:=Src.cq h a7
  simp only[go_sem,n1,n2,q0]
  refine ay aa rfl (mf ts (n'+1) fin 1 a6 a8) (by simp only[go_sem,n1,n2,hg,q0];all_goals rfl) (B+65) a6 (fi hf1) (by simp only[go_sem,n1,n2]) (InF.go hin) (fun m h=>by rw[←hp,h];rfl) ?_
  intro t m3 ht
  rw[ht,PR.bind_ok] at hp
  have hm3:=Src.iN t m3 ht
  have hm4:=Src.ff t m3 ht
  unfold mV lh
  simp only[go_sem,n1,n2,q0]
  refine bC ts m3 fin aa rfl [[91]] (B+20) (by simp only[go_sem,n1,n2,hg,q0];all_goals rfl) (B+65) a6 (fi hf1) (by simp only[go_sem,n1,n2]) (by simp;omega) a6 a6 (by simp only[go_sem,n1,n2,bJ]) (InF.go hin) (fun m h=>by rw[←hp,h];rfl) ?_
  intro m5 hm
  rw[hm,PR.bind_ok] at hp
  have hm5:=Src.bZ (ts:=ts) a7 () m5 hm
  have hm6:=Src.bX () m5 hm
  simp only[go_sem,n1,n2,q0]
  refine ay aa rfl (mf ts m5 fin 2 a6 a8) (by simp only[go_sem,n1,n2,hg,q0];all_goals rfl) (B+65) a6 (fi hf1) (by simp only[go_sem,n1,n2]) (InF.go hin) (fun m h=>by rw[←hp,h];rfl) ?_
  intro t2 m7 ht2
  rw[ht2,PR.bind_ok] at hp
  have hm7:=Src.iN t2 m7 ht2
  have hm8:=Src.ff t2 m7 ht2
  have hw2:IntKind.i64.wrap (t2.num:Int)=(t2.num:Int):=by
   have:t2∈ts:=by
    unfold takeN at ht2
    split at ht2
    ·rename_i t' ht'
     split at ht2
     ·cases ht2;exact l4 ht'
     ·cases ht2
    ·cases ht2
   have:=hnum t2 this
   rw[wrap_i64] <;> omega
  unfold mV lh
  simp only[go_sem,n1,n2,q0,hw2,q3,o3,o32,hca,aH]
  refine⟨a6,⟨a8,a6⟩,?_⟩
  have e1:List.take (ars.length*2) (wi ars)++[C.d (D.str t.text),C.d (D.int IntKind.i64 ↑t2.num)]=wi (ars++[(t.text,(t2.num:Int))]):=by
   rw[l6 a6]
   simp[wi,arD]
  rw[e1]
  refine bC ts m7 fin aa rfl [[93]] (B+35) (by simp only[go_sem,n1,n2,hg,q0];all_goals rfl) (B+65) a6 (fi hf1) (by simp only[go_sem,n1,n2]) (by simp;omega) a6 a6 (by simp only[go_sem,n1,n2,bJ]) (InF.go hin) (fun m h=>by rw[←hp,h];rfl) ?_
  intro m9 hm
  rw[hm,PR.bind_ok] at hp
  have hm9:=Src.bZ (ts:=ts) a7 () m9 hm
  have hm10:=Src.bX () m9 hm
  simp only[go_sem,n1,n2,q0]
  refine bC ts m9 fin aa rfl [[59]] (B+38) (by simp only[go_sem,n1,n2,hg,q0];all_goals rfl) (B+65) a6 (fi hf1) (by simp only[go_sem,n1,n2]) (by simp;omega) a6 a6 (by simp only[go_sem,n1,n2,bJ]) (InF.go hin) (fun m h=>by rw[←hp,show Src.jS=[59] from rfl,h];rfl) ?_
  intro m11 hm
  rw[show Src.jS=[59] from rfl,hm,PR.bind_ok] at hp
  have hm11:=Src.bZ (ts:=ts) a7 () m11 hm
  have hm12:=Src.bX () m11 hm
  simp only[go_sem,n1,n2]
  refine ah (ts.length-m11) a6 ⟨j,m11,vs,ars++[(t.text,(t2.num:Int))],a6,a6,by rw[j4];simp;omega,a6,?_⟩
  simp only[go_sem,n1,n2,q0,q2,q3,j4]
  exact⟨⟨_,_,_,o2⟩,o12,o45,(InF.go hin),(fi hf1),hp⟩
 rw[if_neg h,PR.bind_ok] at hp
 simp only at hp
 simp only[go_sem,n1,n2,q0]
 obtain⟨f0,m0,hlook⟩:=look (lH ts k n')
 refine jn (∃a m,lH ts k n'=.ok a m) ac mixed aa [B+44,B+45,125] [([3],[0,2],[],false),([40],[0,2],[],false),([0],[],[],false),([42],[],[2],false),([43],[],[0],false),([41,44],[],[1],false),([3],[0,1,2],[],false),([46,45],[],[],true)] 3 rfl c9 rfl (by simp;omega) ?_
 simp only[go_sem]
 (apply bw;(case hf=>rfl);(case hg=>first|exact s9|exact⟨_,rfl,by decide,rfl⟩);(case h1=>intro fa ga oa K' hK;simp only[go_sem,n1,n2,q3,o3] at hK ⊢;exact hK))
 (apply bw;(case hf=>rfl);(case hg=>first|exact s9|exact⟨_,rfl,by decide,rfl⟩);(case h1=>intro fa ga oa K' hK;simp only[go_sem,n1,n2,q3,o3] at hK ⊢;exact hK))
 (apply bw;(case hf=>rfl);(case hg=>first|exact s9|exact⟨_,rfl,by decide,rfl⟩);(case h1=>intro fa ga oa K' hK;simp only[go_sem,q0] at hK ⊢;exact hK))
 refine jo (v:=fnV f0) (y:=some (rdC ts m0 fin)) s9 a7 (fun fa ga oa K' hK=>?_) ?_
 ·simp only[go_sem,n1,n2] at hK ⊢
  refine ay (k:=bx K') aa rfl (IC hl (k:=k) (n:=n') a6 a6) (by simp only[go_sem,n1,n2,hg];all_goals rfl) (B+65) a6 (fi hf1) (by simp only[go_sem,n1,n2,o125]) (InF.go hin) (fun m h=>by rw[←hp,h];rfl) ?_
  intro a2 q2 h2
  have e:=hlook ⟨_,_,h2⟩
  rw[h2] at e
  cases e
  simp only[go_sem,n1,n2]
  exact hK ⟨_,_,h2⟩
 (apply iE;(case hf=>rfl);(case hg=>first|exact s9|exact⟨_,rfl,by decide,rfl⟩);(case h1=>intro fa ga oa K' hK;simp only[go_sem,fnV,fnD] at hK ⊢;exact hK))
 refine iE (a:=1) (v:=.one (.osl (B+45) (nxC (apC 50 (g1 (B+45)) 0) (g1 (B+45))) 5 0 1)) (x:=nxC (apC 50 (g1 (B+45)) 0) (g1 (B+45))) (y:=some (fnC [f0])) rfl s9 (fun fa ga oa K' hK=>?_) ?_
 ·simp only[go_sem,n1,n2,o45,aH,j5,zw,fnD] at hK ⊢
  exact⟨⟨a8,a6⟩,hK⟩
 (apply bw;(case hf=>rfl);(case hg=>first|exact s9|exact⟨_,rfl,by decide,rfl⟩);(case h1=>intro fa ga oa K' hK;simp only[go_sem,n1,n2,q3,o3] at hK ⊢;exact hK))
 refine jp rfl s9 ?_
 intro K' hK'
 simp only[go_sem,n1,n2,o3]
 refine hK' _ ?_
 clear hK' K'
 intro hz'
 have e:=hlook hz'
 rw[e,PR.bind_ok] at hp
 have hm1:=Src.zT f0 m0 e
 have hm2:=Src.OY f0 m0 e
 simp only[go_sem,n1,n2,q0]
 refine ap (fun z st=>∃(j n'':Nat) (fs:List Src.Fn),z+n''=ts.length∧fs.length≤n''∧4*(ts.length-n'')+6≤j∧st.f 0=.one (.ptr 125 (g 125) 0)∧st.f 2=.one (.ptr (B+2) (st.gen (B+2)) 0)∧st.f 3=.one (.ptr (B+3) (st.gen (B+3)) 0)∧(∃a b c,st.obj (B+2)=some [a,b,c])∧
   st.obj (B+3)=some [.osl (B+12) (st.gen (B+12)) 1 0 vs.length,.osl (B+32) (st.gen (B+32)) 2 0 ars.length,.osl (B+45) (st.gen (B+45)) 5 0 fs.length]∧st.obj (B+12)=some (bJ vs)∧st.obj (B+32)=some (wi ars)∧st.obj (B+45)=some (fnC fs)∧st.obj 125=some (rdC ts n'' fin)∧InF B g ob st.gen st.obj∧(∀i,B+65≤i→st.obj i=none)∧
   ((lB ts j fs n'').bind fun fs n=>PR.ok (Src.Prog.mk vs ars fs) n)=p) (ts.length-m0) ?_ ?_
 ·refine⟨k,m0,[f0],a6,by simp;omega,a6,?_⟩
  simp only[go_sem,n1,n2,q0,q2,q3]
  exact⟨⟨_,_,_,o2⟩,o12,o32,(InF.go hin),(fi hf1),hp⟩
 clear hf1 hin hp q0 q2 q3 o2 o3 o12 o32 o45 o125 hlook hz' e hg
 rintro z f g1 ob1 ⟨j,n'',fs,hz,hfs,hj,q0,q2,q3,⟨a,b,c,o2⟩,o3,o12,o32,o45,o125,hin,hf1,hp⟩
 simp only at q0 q2 q3 o2 o3 o12 o32 o45 o125 hin hf1
 obtain⟨j,rfl⟩:∃i,j=i+1:=⟨j-1,a6⟩
 rw[lB] at hp
 have hg:=hin.rd
 have o125':=o125
 unfold rdC gX at o125'
 have hcf:=Gd fs
 simp only[go_sem]
 refine aU c9 ?_
 by_cases hlt:n''<ts.length
 case neg=>
  rw[if_neg hlt,PR.bind_ok] at hp
  have hli:¬(n'':Int)<(ts.length:Int):=a6
  simp only[go_sem,n1,n2,hg,q0,o125',hli,j5,q2,q3,o2,o3]
  refine⟨_,ag.refl _,?_⟩
  simp only[go_sem,n1,n2,q2]
  refine InF.ret (n:=n'') (a:=⟨vs,ars,fs⟩) (rs:=[.agg [.d (.sl (vs.map fun s=>[.str s])),.d (.sl (ars.map arD)),.d (.sl (fs.map fnD))]]) (InF.go hin) (by simp only[go_sem,n1,n2,o125]) hp.symm ?_ rfl
  exact⟨_,_,rfl,.agg (xs:=[.sl (vs.map fun s=>[.str s]),.sl (ars.map arD),.sl (fs.map fnD)]) rfl (fun i e he=>by
   match i,he with
   |0,he=>cases he;exact⟨_,rfl,zt a6 (by simp only[go_sem,n1,n2]) (by simp only[go_sem,n1,n2,o12]) rfl⟩
   |1,he=>cases he;exact⟨_,rfl,JW a6 (by simp only[go_sem,n1,n2]) (by simp only[go_sem,n1,n2,o32]) rfl⟩
   | 2,he=>cases he;exact⟨_,rfl,Ot a6 (by simp only[go_sem,n1,n2]) (by simp only[go_sem,n1,n2,o45]) rfl⟩),rfl⟩
 rw[if_pos hlt] at hp
 have hli:(n'':Int)<(ts.length:Int):=a6
 simp only[go_sem,n1,n2,hg,q0,o125',hli,j5]
 obtain⟨f1,m1,hlook⟩:=look (lH ts j n'')
 refine jn (∃a m,lH ts j n''=.ok a m) ac mixed aa [B+61,B+45,125] [([3],[0,2],[],false),([57],[0,2],[],false),([0],[],[],false),([59],[],[2],false),([60],[],[0],false),([58,61],[],[1],false),([3],[0,1,2],[],false),([63,62],[],[],true)] 3 rfl c9 rfl (by simp;omega) ?_
 simp only[go_sem]
 (apply bw;(case hf=>rfl);(case hg=>first|exact s9|exact⟨_,rfl,by decide,rfl⟩);(case h1=>intro fa ga oa K' hK;simp only[go_sem,n1,n2,q3,o3] at hK ⊢;exact hK))
 (apply bw;(case hf=>rfl);(case hg=>first|exact s9|exact⟨_,rfl,by decide,rfl⟩);(case h1=>intro fa ga oa K' hK;simp only[go_sem,n1,n2,q3,o3] at hK ⊢;exact hK))
 (apply bw;(case hf=>rfl);(case hg=>first|exact s9|exact⟨_,rfl,by decide,rfl⟩);(case h1=>intro fa ga oa K' hK;simp only[go_sem,q0] at hK ⊢;exact hK))
 refine jo (v:=fnV f1) (y:=some (rdC ts m1 fin)) s9 a7 (fun fa ga oa K' hK=>?_) ?_
 ·simp only[go_sem,n1,n2] at hK ⊢
  refine ay (k:=bx K') aa rfl (IC hl (k:=j) (n:=n'') a6 a6) (by simp only[go_sem,n1,n2,hg];all_goals rfl) (B+65) a6 (fi hf1) (by simp only[go_sem,n1,n2,o125]) (InF.go hin) (fun m h=>by rw[←hp,h];rfl) ?_
  intro a2 q2 h2
  have e:=hlook ⟨_,_,h2⟩
  rw[h2] at e
  cases e
  simp only[go_sem,n1,n2]
  exact hK ⟨_,_,h2⟩
 (apply iE;(case hf=>rfl);(case hg=>first|exact s9|exact⟨_,rfl,by decide,rfl⟩);(case h1=>intro fa ga oa K' hK;simp only[go_sem,fnV,fnD] at hK ⊢;exact hK))
 refine iE (a:=1) (v:=.one (.osl (B+45) (nxC (apC 50 (g1 (B+45)) 0) (g1 (B+45))) 5 0 (fs.length+1))) (x:=nxC (apC 50 (g1 (B+45)) 0) (g1 (B+45))) (y:=some (fnC (fs++[f1]))) rfl s9 (fun fa ga oa K' hK=>?_) ?_
 ·simp only[go_sem,n1,n2,o45,aH,j5,hcf] at hK ⊢
  have e1:List.take (fs.length*5) (fnC fs)++(fnD f1).map C.d=fnC (fs++[f1]):=by
   rw[l6 a6,Ge,zw]
  simp only[fnD,l5,w7] at e1
  rw[e1]
  exact⟨a6,⟨a8,a6⟩,hK⟩
 (apply bw;(case hf=>rfl);(case hg=>first|exact s9|exact⟨_,rfl,by decide,rfl⟩);(case h1=>intro fa ga oa K' hK;simp only[go_sem,n1,n2,q3,o3] at hK ⊢;exact hK))
 refine jp rfl s9 ?_
 intro K' hK'
 simp only[go_sem,n1,n2,o3]
 refine hK' _ ?_
 clear hK' K'
 intro hz'
 have e:=hlook hz'
 rw[e,PR.bind_ok] at hp
 have hm3:=Src.zT f1 m1 e
 have hm4:=Src.OY f1 m1 e
 simp only[go_sem,n1,n2,q0]
 refine ah (ts.length-m1) a6 ⟨j,m1,fs++[f1],a6,by rw[j4];simp;omega,a6,?_⟩
 simp only[go_sem,n1,n2,q0,q2,q3,j4]
 exact⟨⟨_,_,_,o2⟩,o12,o32,(InF.go hin),(fi hf1),hp⟩
end
end
end Go.Proofs.YtbojbioflppbdaaGreatDoor
namespace Go.Src
section
open Go.Asm (Str letter iz)
def cP (s:Str):Bool:=decide (s≠[]∧s.length≤20∧s.head?.any letter=true∧s.takeWhile iz=s∧s∉Ej)
def aS (named:Bool) (s:Str):Bool:=if named then cP s else decide (s=[])
def oF (kind op num:Int) (name:Str) (n:Nat):Bool:=
 if kind=1 then decide (op=0) && aS false name && decide (n=0)
 else if kind=2 then decide (op=0∧num=0) && aS true name && decide (n=0)
 else if kind=3 then decide (op=0∧num=0) && aS true name && decide (n=1)
 else if kind=4 then decide (op=0∧num=0) && aS true name && decide (n≤6)
 else if kind=5 then decide (op=0∧num=0) && aS false name && decide (n=0)
 else if kind=6 then decide ((4≤op∧op≤15)∧num=0) && aS false name && decide (n=2)
 else if kind=7 then decide (op=0∧num=0) && aS false name && decide (n=1)
 else if kind=8∨kind=9 then decide (op=0∧num=0) && aS false name && decide (n=2)
 else false
mutual
def jH (lv:Nat):Ex→Bool
 |.mk kind op num name kids=>decide (lv≤24)&&(oF kind op num name kids.length&&ea (lv+1) kids)
def ea (lv:Nat):List Ex→Bool
 |[]=>true
 |e::l=>jH lv e&&ea lv l
end
def oI (kind:Int) (name:Str) (n nt ne:Nat):Bool:=
 if kind=1 then aS true name && decide (n=1∧nt=0∧ne=0)
 else if kind=2 then aS true name && decide (n=2∧nt=0∧ne=0)
 else if kind=3 then aS false name && decide (n=1∧nt=0∧ne=0)
 else if kind=4 then aS false name && decide (n=1)
 else if kind=5 then aS false name && decide (n=1∧ne=0)
 else if kind=6 then aS true name && decide (n≤6∧nt=0∧ne=0)
 else if kind=7 then aS false name && decide (n≤1∧nt=0∧ne=0)
 else false
mutual
def iS (lv:Nat):Stm→Bool
 |.mk kind name e th el=>decide (lv≤24)&&(oI kind name e.length th.length el.length&&ea (lv+1) e)&&(dI (lv+1) th&&dI (lv+1) el)
def dI (lv:Nat):List Stm→Bool
 |[]=>true
 |s::l=>iS lv s&&dI lv l
end
def eG (f:Fn):Bool:=cP f.name&&decide (f.params.length≤6)&&(f.params.all cP&&f.locals.all cP&&dI 1 f.body)
def fM (a:Str×Int):Bool:=cP a.1&&decide (1≤a.2)&&decide (a.2≤4096)
def dZ (p:Prog):Bool:=decide (1≤p.funcs.length∧p.funcs.length≤64)&&p.vars.all cP&&(p.arrays.all fM&&p.funcs.all eG)
mutual
def szE:Ex→Nat
 |.mk _ _ _ _ kids=>bG kids+1
def bG:List Ex→Nat
 |[]=>0
 |e::l=>szE e+bG l
end
mutual
def szS:Stm→Nat
 |.mk _ _ e th el=>bG e+bB th+bB el+1
def bB:List Stm→Nat
 |[]=>0
 |s::l=>szS s+bB l
end
theorem HE:∀{l:List Ex}{e:Ex},e∈l→szE e≤bG l
 |x::l,e,h=>by
   rw[bG]
   rcases x9.1 h with rfl|h
   ·omega
   ·have:=HE h;omega
theorem HF:∀{l:List Stm}{e:Stm},e∈l→szS e≤bB l
 |x::l,e,h=>by
   rw[bB]
   rcases x9.1 h with rfl|h
   ·omega
   ·have:=HF h;omega
theorem Ez:∀l:List Ex,l.length≤bG l
 |[]=>j9 _
 |e::l=>by have:=Ez l;cases e;simp only[bG,szE,j6];omega
theorem EA:∀l:List Stm,l.length≤bB l
 |[]=>j9 _
 |e::l=>by have:=EA l;cases e;simp only[bB,szS,j6];omega
theorem xb {lv:Nat}:∀l:List Ex,ea lv l=l.all (jH lv)
 |[]=>by simp[ea]
 |e::l=>by simp[ea,xb l]
theorem xd {lv:Nat}:∀l:List Stm,dI lv l=l.all (iS lv)
 |[]=>by simp[dI]
 |e::l=>by simp[dI,xd l]
theorem OZ {α:Type}{p:α→Bool}{l:List α}{k:Nat}{x:α} (h:(l.take k).all p=true) (hx:l[k]? = some x) (hp:p x=true):(l.take (k+1)).all p=true:=by
 rw[A4,hx,H5,h];simp[hp]
theorem all_false {α:Type}{p:α→Bool}{l:List α}{k:Nat}{x:α} (hx:l[k]? = some x) (hp:p x=false):l.all p=false:=by
 rw[List.all_eq_false]
 exact⟨x,l4 hx,by simp[hp]⟩
end
end Go.Src
namespace Go.Am
section
section
section
variable {P:Program}{T:Nat→TI}{b₀:Bs}{rd:Option Nat}{gb:Nat}{o:cN}{Ψ:fP}{B0:Nat}
theorem xG {Φ:St→Loc→List Deferred→World→Prop} (hΦ:aW b₀ Φ) (hG:∀s β ds w,Φ s β ds w→nR b₀ gb o w) {op:Oper}{s:St}{K:St→Prop}{k:Box K}{f:FuncId}{args:Array Operand}{tys:Array TypeId} (ho:op.op=.call ⟨.value (.func f),args,tys⟩) {R:AV→Prop}{xs:List AV}
  (hx:cH s (args.toList.map s.ev) xs) (hp:bR P gb o f xs R) (hd:∀r,R r→cM r=true) (hk:∀r,R r→K (s.put op.dst r)):bi (spF P rd b₀ Φ B0 Ψ) op s k:=by
 refine⟨fun s'=>∃r,R r∧s'=s.put op.dst r,?_,fun _ ⟨r,hr,e⟩=>e▸hk r hr⟩
 intro N β a ds w hr hφ hdst next Q hn _
 have hnd:aJ op=true:=by simp[aJ,ho]
 refine eY hnd ?_
 unfold Oper.wp
 rw[gz ho hp.1 w]
 simp only[Oper.upon]
 have hargs:∀(l:List Operand) (xs:List AV),cH s (l.map s.ev) xs→RVs (Own b₀ w) w xs (l.map a.eval):=by
  intro l
  induction l with
  |nil=>intro xs h;simp only[w7,cH] at h;subst h;simp only[w7,RVs]
  |cons x l ih=>
    intro xs h
    simp only[l5,cH] at h
    obtain⟨r,rs,rfl,h1,h2⟩:=h
    simp only[l5,RVs]
    exact⟨_,_,rfl,h1.rep hr (hr.ev x),ih rs h2⟩
 have:=hp.2 (Own b₀ w) w (args.toList.map a.eval) (hG _ _ _ _ hφ).2 (fun _ h=>h.1) (hargs _ _ hx)
 rw[show (args.toList.map a.eval).toArray=args.map a.eval from G6 a7] at this
 refine this.mono fun e w' ⟨v,r,he,hR,hs,hh,hos,hv⟩=>?_
 subst he
 obtain⟨g1,g2⟩:=hr.grow hs hh hos
 have h1:=g1.put hdst (RV.rep r (RV.of_scalar (hd r hR) hv))
 exact⟨h1.defers,hn _ β _ w' ⟨r,hR,rfl⟩ h1 (hΦ _ _ _ _ _ _ _ hφ (g2.trans (Tr.same (St.put_gen _ _ _) (St.put_obj _ _ _) rfl)))⟩
end
end
end
end Go.Am
namespace Go.Proofs.YtbojbioflppbdaaGreatDoor
section
attribute [local congr] Go.Am.ite_cc
open Go Go.Am Go.Asm
open Go.Src (cP)
section
variable {o:cN}
theorem JY (ho:iK o) (s:Str):bR Tryz.prog 1 o 60 [sv s] (· = bv (cP s)):=by
 refine ax 0 1 o ac mixed Tryz.func60 rfl b9 [.tmp 2] rfl c8 c8 (by simp[Tryz.ntmps60]) fun b₀ β0 s0 w0 g=>?_
 obtain⟨z,hz⟩:∃z,cP s=z:=⟨_,rfl⟩
 rw[hz]
 unfold cP at hz
 by_cases hnil:s=[]
 ·obtain rfl:z=false:=by rw[←hz];exact y9 fun h=>h.1 hnil
  simp only[go_sem,s5 hnil]
 by_cases hlen:s.length≤20
 case neg=>
  obtain rfl:z=false:=by rw[←hz];exact y9 fun h=>hlen h.2.1
  have hli:¬(s.length:Int)≤20:=a6
  simp only[go_sem,hnil,hli]
 have hli:(s.length:Int)≤20:=a6
 obtain⟨c,hc⟩:∃c,s[0]? = some c:=by
  cases s with
  |nil=>exact absurd rfl hnil
  |cons c r=>exact⟨c,rfl⟩
 have hhd:s.head? = some c:=by rw[←hc,List.head?_eq_getElem?]
 simp only[go_sem,hnil,hli,hc]
 refine aF ab rfl (by simp only[go_sem];exact mO c) (by simp only[go_sem];rfl) ?_
 rintro _ rfl
 cases hlc:letter c
 ·obtain rfl:z=false:=by rw[←hz];exact y9 fun h=>by have:=h.2.2.1;rw[hhd] at this;simp[hlc] at this
  simp only[go_sem]
 simp only[go_sem]
 refine aF ab rfl (by simp only[go_sem];exact qM (fun c=>tW c) s a6) (by simp only[go_sem];rfl) ?_
 rintro _ rfl
 by_cases hfr:s.takeWhile iz=s
 case neg=>
  obtain rfl:z=false:=by rw[←hz];exact y9 fun h=>hfr h.2.2.2.1
  simp only[go_sem,hfr]
 simp only[go_sem,hfr]
 refine am ab (fun s β ds w h=>h.1.2) rfl (by simp only[go_sem];exact wJ ho s) (by simp only[go_sem];rfl) ?_
 rintro _ rfl
 by_cases hw:s∈Src.Ej
 ·obtain rfl:z=false:=by rw[←hz];exact y9 fun h=>h.2.2.2.2 hw
  simp only[go_sem,hw]
 ·obtain rfl:z=true:=by rw[←hz];exact E8 ⟨hnil,hlen,by rw[hhd];simp[hlc],hfr,hw⟩
  simp only[go_sem,hw]
theorem kU (ho:iK o) (s:Str):bR Tryz.prog 1 o 42 [sv s] (· = bv (cP s)):=by
 refine ax 0 1 o ac mixed Tryz.func42 rfl b9 [.tmp 2] rfl c8 c8 (by simp[Tryz.ntmps42]) fun b₀ β0 s0 w0 g=>?_
 have hno:s∈Src.Ej→cP s=false:=fun h=>y9 fun h'=>h'.2.2.2.2 h
 obtain⟨z,hz⟩:∃z,cP s=z:=⟨_,rfl⟩
 rw[hz]
 rw[hz] at hno
 by_cases h0:s=[118,97,114]
 ·obtain rfl:=hno (by rw[h0];decide)
  simp only[go_sem,s5 h0]
 by_cases h1:s=[97,114,114,97,121]
 ·obtain rfl:=hno (by rw[h1];decide)
  simp only[go_sem,h0,s5 h1]
 by_cases h2:s=[102,117,110,99]
 ·obtain rfl:=hno (by rw[h2];decide)
  simp only[go_sem,h0,h1,s5 h2]
 by_cases h3:s=[119,111,114,100]
 ·obtain rfl:=hno (by rw[h3];decide)
  simp only[go_sem,h0,h1,h2,s5 h3]
 by_cases h4:s=[105,102]
 ·obtain rfl:=hno (by rw[h4];decide)
  simp only[go_sem,h0,h1,h2,h3,s5 h4]
 by_cases h5:s=[101,108,115,101]
 ·obtain rfl:=hno (by rw[h5];decide)
  simp only[go_sem,h0,h1,h2,h3,h4,s5 h5]
 by_cases h6:s=[119,104,105,108,101]
 ·obtain rfl:=hno (by rw[h6];decide)
  simp only[go_sem,h0,h1,h2,h3,h4,h5,s5 h6]
 by_cases h7:s=[114,101,116,117,114,110]
 ·obtain rfl:=hno (by rw[h7];decide)
  simp only[go_sem,h0,h1,h2,h3,h4,h5,h6,s5 h7]
 by_cases h8:s=[112,117,116]
 ·obtain rfl:=hno (by rw[h8];decide)
  simp only[go_sem,h0,h1,h2,h3,h4,h5,h6,h7,s5 h8]
 by_cases h9:s=[103,101,116]
 ·obtain rfl:=hno (by rw[h9];decide)
  simp only[go_sem,h0,h1,h2,h3,h4,h5,h6,h7,h8,s5 h9]
 simp only[go_sem,h0,h1,h2,h3,h4,h5,h6,h7,h8,h9]
 refine am ab (fun s β ds w h=>h.1.2) rfl (by simp only[go_sem];exact JY ho s) (by simp only[go_sem];rfl) ?_
 rintro _ rfl
 rw[hz]
 simp only[go_sem]
theorem bU (ho:iK o) (s:Str) (b:Bool):bR Tryz.prog 1 o 85 [sv s,bv b] (· = bv (Src.aS b s)):=by
 refine ax 0 1 o ac mixed Tryz.func85 rfl b9 [.tmp 4] rfl c8 c8 (by simp[Tryz.ntmps85]) fun b₀ β0 s0 w0 g=>?_
 unfold Src.aS
 cases b
 ·simp only[go_sem]
 ·simp only[go_sem]
  refine am ab (fun s β ds w h=>h.1.2) rfl (by simp only[go_sem];exact kU ho s) (by simp only[go_sem];rfl) ?_
  rintro _ rfl
  simp only[go_sem]
theorem nq (ho:iK o) (l:List Str) (hl:l.length≤1000000000):bR Tryz.prog 1 o 41 [jy l] (· = bv (l.all cP)):=by
 refine ax 0 1 o ac mixed Tryz.func41 rfl b9 [.tmp 2] rfl c8 c8 (by simp[Tryz.ntmps41]) fun b₀ β0 s0 w0 g=>?_
 unfold jy
 simp only[go_sem,j5]
 refine ap (fun z st=>∃k:Nat,z+k=l.length∧(l.take k).all cP=true∧st.f 5=.one (.d (.sl (l.map fun s=>[.str s])))∧st.f 6=iv .i64 l.length∧st.f 7=iv .i64 k) l.length ?_ ?_
 ·refine⟨0,rfl,a7,?_⟩
  simp only[go_sem]
 rintro z f g1 ob1 ⟨k,hk,hall,q5,q6,q7⟩
 simp only at q5 q6 q7
 have hw:=ai (k:=k) a6
 by_cases hlt:k<l.length
 case neg=>
  have hki:¬(k:Int)<(l.length:Int):=a6
  obtain rfl:k=l.length:=a6
  rw[l6 (j9 _)] at hall
  simp only[go_sem,q6,q7,hki,hall]
 have hki:(k:Int)<(l.length:Int):=a6
 have hk0:(0:Int)≤(k:Int):=a6
 obtain⟨s,hs⟩:=getq hlt
 simp only[go_sem,q5,q6,q7,hki,hk0,hs]
 refine am ab (fun s β ds w h=>h.1.2) rfl (by simp only[go_sem];exact kU ho s) (by simp only[go_sem];rfl) ?_
 rintro _ rfl
 cases hb:cP s
 ·simp only[go_sem,Src.all_false hs hb]
 ·simp only[go_sem,q7,hw]
  refine ah (z-1) a6 ⟨k+1,a6,Src.OZ hall hs hb,?_⟩
  simp only[go_sem,q5,q6]
end
end
section
attribute [local congr] Go.Am.ite_cc
open Go Go.Am Go.Asm
open Go.Src (cP aS oF oI Ex Stm)
theorem xZ {o:cN} (ho:iK o) (e:Ex):bR Tryz.prog 1 o 86 [exV e] (· = bv (match e with|.mk kind op num name kids=>oF kind op num name kids.length)):=by
 obtain⟨kind,op,num,name,kids⟩:=e
 refine ax 0 1 o ac mixed Tryz.func86 rfl b9 [.tmp 2] rfl c8 c8 (by simp[Tryz.ntmps86]) fun b₀ β0 s0 w0 g=>?_
 simp only
 obtain⟨z,hz⟩:∃z,oF kind op num name kids.length=z:=⟨_,rfl⟩
 rw[hz]
 unfold exV
 simp only[exD,bh,l5,w7]
 unfold oF at hz
 by_cases k1:kind=1
 ·rw[if_pos k1] at hz
  by_cases ho0:op=0
  case neg=>
   obtain rfl:z=false:=by rw[←hz];simp[ho0]
   simp only[go_sem,s5 k1,ho0]
  simp only[go_sem,s5 k1,s5 ho0]
  refine am ab (fun s β ds w h=>h.1.2) rfl (by simp only[go_sem];exact bU ho name false) (by simp only[go_sem];rfl) ?_
  rintro _ rfl
  cases hnm:aS false name
  ·obtain rfl:z=false:=by rw[←hz];simp[hnm]
   simp only[go_sem,s5 k1,s5 ho0]
  by_cases hln:kids.length=0
  case neg=>
   obtain rfl:z=false:=by rw[←hz];simp[hln]
   have hlo:(0:Int)≤(kids.length:Int):=a6
   have hhi:¬(kids.length:Int)≤0:=a6
   simp only[go_sem,s5 k1,s5 ho0,j5,hlo,hhi]
  have hlo:(0:Int)≤(kids.length:Int):=a6
  have hhi:(kids.length:Int)≤0:=a6
  obtain rfl:z=true:=by rw[←hz];simp[ho0,hnm,hln]
  simp only[go_sem,s5 k1,s5 ho0,j5,hlo,hhi]
 by_cases k2:kind=2
 ·rw[if_neg k1,if_pos k2] at hz
  by_cases ho0:op=0
  case neg=>
   obtain rfl:z=false:=by rw[←hz];simp[ho0]
   simp only[go_sem,s5 k2,k1,ho0]
  by_cases hn0:num=0
  case neg=>
   obtain rfl:z=false:=by rw[←hz];simp[hn0]
   simp only[go_sem,s5 k2,k1,s5 ho0,hn0]
  simp only[go_sem,s5 k2,k1,s5 ho0,s5 hn0]
  refine am ab (fun s β ds w h=>h.1.2) rfl (by simp only[go_sem];exact bU ho name true) (by simp only[go_sem];rfl) ?_
  rintro _ rfl
  cases hnm:aS true name
  ·obtain rfl:z=false:=by rw[←hz];simp[hnm]
   simp only[go_sem,s5 k2,k1,s5 ho0,s5 hn0]
  by_cases hln:kids.length=0
  case neg=>
   obtain rfl:z=false:=by rw[←hz];simp[hln]
   have hlo:(0:Int)≤(kids.length:Int):=a6
   have hhi:¬(kids.length:Int)≤0:=a6
   simp only[go_sem,s5 k2,k1,s5 ho0,s5 hn0,j5,hlo,hhi]
  have hlo:(0:Int)≤(kids.length:Int):=a6
  have hhi:(kids.length:Int)≤0:=a6
  obtain rfl:z=true:=by rw[←hz];simp[ho0,hn0,hnm,hln]
  simp only[go_sem,s5 k2,k1,s5 ho0,s5 hn0,j5,hlo,hhi]
 by_cases k3:kind=3
 ·rw[if_neg k1,if_neg k2,if_pos k3] at hz
  by_cases ho0:op=0
  case neg=>
   obtain rfl:z=false:=by rw[←hz];simp[ho0]
   simp only[go_sem,s5 k3,k1,k2,ho0]
  by_cases hn0:num=0
  case neg=>
   obtain rfl:z=false:=by rw[←hz];simp[hn0]
   simp only[go_sem,s5 k3,k1,k2,s5 ho0,hn0]
  simp only[go_sem,s5 k3,k1,k2,s5 ho0,s5 hn0]
  refine am ab (fun s β ds w h=>h.1.2) rfl (by simp only[go_sem];exact bU ho name true) (by simp only[go_sem];rfl) ?_
  rintro _ rfl
  cases hnm:aS true name
  ·obtain rfl:z=false:=by rw[←hz];simp[hnm]
   simp only[go_sem,s5 k3,k1,k2,s5 ho0,s5 hn0]
  by_cases hln:kids.length=1
  case neg=>
   obtain rfl:z=false:=by rw[←hz];simp[hln]
   by_cases hlo:(1:Int)≤(kids.length:Int)
   ·have hhi:¬(kids.length:Int)≤1:=a6
    simp only[go_sem,s5 k3,k1,k2,s5 ho0,s5 hn0,j5,hlo,hhi]
   ·simp only[go_sem,s5 k3,k1,k2,s5 ho0,s5 hn0,j5,hlo]
  have hlo:(1:Int)≤(kids.length:Int):=a6
  have hhi:(kids.length:Int)≤1:=a6
  obtain rfl:z=true:=by rw[←hz];simp[ho0,hn0,hnm,hln]
  simp only[go_sem,s5 k3,k1,k2,s5 ho0,s5 hn0,j5,hlo,hhi]
 by_cases k4:kind=4
 ·rw[if_neg k1,if_neg k2,if_neg k3,if_pos k4] at hz
  by_cases ho0:op=0
  case neg=>
   obtain rfl:z=false:=by rw[←hz];simp[ho0]
   simp only[go_sem,s5 k4,k1,k2,k3,ho0]
  by_cases hn0:num=0
  case neg=>
   obtain rfl:z=false:=by rw[←hz];simp[hn0]
   simp only[go_sem,s5 k4,k1,k2,k3,s5 ho0,hn0]
  simp only[go_sem,s5 k4,k1,k2,k3,s5 ho0,s5 hn0]
  refine am ab (fun s β ds w h=>h.1.2) rfl (by simp only[go_sem];exact bU ho name true) (by simp only[go_sem];rfl) ?_
  rintro _ rfl
  cases hnm:aS true name
  ·obtain rfl:z=false:=by rw[←hz];simp[hnm]
   simp only[go_sem,s5 k4,k1,k2,k3,s5 ho0,s5 hn0]
  have hlo:(0:Int)≤(kids.length:Int):=a6
  by_cases hln:kids.length≤6
  case neg=>
   obtain rfl:z=false:=by rw[←hz];simp;omega
   have hhi:¬(kids.length:Int)≤6:=a6
   simp only[go_sem,s5 k4,k1,k2,k3,s5 ho0,s5 hn0,j5,hlo,hhi]
  have hhi:(kids.length:Int)≤6:=a6
  obtain rfl:z=true:=by rw[←hz];simp[ho0,hn0,hnm,hln]
  simp only[go_sem,s5 k4,k1,k2,k3,s5 ho0,s5 hn0,j5,hlo,hhi]
 by_cases k5:kind=5
 ·rw[if_neg k1,if_neg k2,if_neg k3,if_neg k4,if_pos k5] at hz
  by_cases ho0:op=0
  case neg=>
   obtain rfl:z=false:=by rw[←hz];simp[ho0]
   simp only[go_sem,s5 k5,k1,k2,k3,k4,ho0]
  by_cases hn0:num=0
  case neg=>
   obtain rfl:z=false:=by rw[←hz];simp[hn0]
   simp only[go_sem,s5 k5,k1,k2,k3,k4,s5 ho0,hn0]
  simp only[go_sem,s5 k5,k1,k2,k3,k4,s5 ho0,s5 hn0]
  refine am ab (fun s β ds w h=>h.1.2) rfl (by simp only[go_sem];exact bU ho name false) (by simp only[go_sem];rfl) ?_
  rintro _ rfl
  cases hnm:aS false name
  ·obtain rfl:z=false:=by rw[←hz];simp[hnm]
   simp only[go_sem,s5 k5,k1,k2,k3,k4,s5 ho0,s5 hn0]
  by_cases hln:kids.length=0
  case neg=>
   obtain rfl:z=false:=by rw[←hz];simp[hln]
   have hlo:(0:Int)≤(kids.length:Int):=a6
   have hhi:¬(kids.length:Int)≤0:=a6
   simp only[go_sem,s5 k5,k1,k2,k3,k4,s5 ho0,s5 hn0,j5,hlo,hhi]
  have hlo:(0:Int)≤(kids.length:Int):=a6
  have hhi:(kids.length:Int)≤0:=a6
  obtain rfl:z=true:=by rw[←hz];simp[ho0,hn0,hnm,hln]
  simp only[go_sem,s5 k5,k1,k2,k3,k4,s5 ho0,s5 hn0,j5,hlo,hhi]
 by_cases k6:kind=6
 ·rw[if_neg k1,if_neg k2,if_neg k3,if_neg k4,if_neg k5,if_pos k6] at hz
  by_cases hol:op<4
  case pos=>
   have hx:¬4≤op:=a6
   obtain rfl:z=false:=by rw[←hz];simp[hx]
   simp only[go_sem,s5 k6,k1,k2,k3,k4,k5,hol]
  by_cases hoh:15<op
  case pos=>
   have hx:¬op≤15:=a6
   obtain rfl:z=false:=by rw[←hz];simp[hx]
   simp only[go_sem,s5 k6,k1,k2,k3,k4,k5,hol,hoh]
  have hx1:4≤op:=a6
  have hx2:op≤15:=a6
  by_cases hn0:num=0
  case neg=>
   obtain rfl:z=false:=by rw[←hz];simp[hn0]
   simp only[go_sem,s5 k6,k1,k2,k3,k4,k5,hol,hoh,hn0]
  simp only[go_sem,s5 k6,k1,k2,k3,k4,k5,hol,hoh,s5 hn0]
  refine am ab (fun s β ds w h=>h.1.2) rfl (by simp only[go_sem];exact bU ho name false) (by simp only[go_sem];rfl) ?_
  rintro _ rfl
  cases hnm:aS false name
  ·obtain rfl:z=false:=by rw[←hz];simp[hnm]
   simp only[go_sem,s5 k6,k1,k2,k3,k4,k5,hol,hoh,s5 hn0]
  by_cases hln:kids.length=2
  case neg=>
   obtain rfl:z=false:=by rw[←hz];simp[hln]
   by_cases hlo:(2:Int)≤(kids.length:Int)
   ·have hhi:¬(kids.length:Int)≤2:=a6
    simp only[go_sem,s5 k6,k1,k2,k3,k4,k5,hol,hoh,s5 hn0,j5,hlo,hhi]
   ·simp only[go_sem,s5 k6,k1,k2,k3,k4,k5,hol,hoh,s5 hn0,j5,hlo]
  have hlo:(2:Int)≤(kids.length:Int):=a6
  have hhi:(kids.length:Int)≤2:=a6
  obtain rfl:z=true:=by rw[←hz];simp[hx1,hx2,hn0,hnm,hln]
  simp only[go_sem,s5 k6,k1,k2,k3,k4,k5,hol,hoh,s5 hn0,j5,hlo,hhi]
 by_cases k7:kind=7
 ·rw[if_neg k1,if_neg k2,if_neg k3,if_neg k4,if_neg k5,if_neg k6,if_pos k7] at hz
  by_cases ho0:op=0
  case neg=>
   obtain rfl:z=false:=by rw[←hz];simp[ho0]
   simp only[go_sem,s5 k7,k1,k2,k3,k4,k5,k6,ho0]
  by_cases hn0:num=0
  case neg=>
   obtain rfl:z=false:=by rw[←hz];simp[hn0]
   simp only[go_sem,s5 k7,k1,k2,k3,k4,k5,k6,s5 ho0,hn0]
  simp only[go_sem,s5 k7,k1,k2,k3,k4,k5,k6,s5 ho0,s5 hn0]
  refine am ab (fun s β ds w h=>h.1.2) rfl (by simp only[go_sem];exact bU ho name false) (by simp only[go_sem];rfl) ?_
  rintro _ rfl
  cases hnm:aS false name
  ·obtain rfl:z=false:=by rw[←hz];simp[hnm]
   simp only[go_sem,s5 k7,k1,k2,k3,k4,k5,k6,s5 ho0,s5 hn0]
  by_cases hln:kids.length=1
  case neg=>
   obtain rfl:z=false:=by rw[←hz];simp[hln]
   by_cases hlo:(1:Int)≤(kids.length:Int)
   ·have hhi:¬(kids.length:Int)≤1:=a6
    simp only[go_sem,s5 k7,k1,k2,k3,k4,k5,k6,s5 ho0,s5 hn0,j5,hlo,hhi]
   ·simp only[go_sem,s5 k7,k1,k2,k3,k4,k5,k6,s5 ho0,s5 hn0,j5,hlo]
  have hlo:(1:Int)≤(kids.length:Int):=a6
  have hhi:(kids.length:Int)≤1:=a6
  obtain rfl:z=true:=by rw[←hz];simp[ho0,hn0,hnm,hln]
  simp only[go_sem,s5 k7,k1,k2,k3,k4,k5,k6,s5 ho0,s5 hn0,j5,hlo,hhi]
 by_cases k8:kind=8
 ·rw[if_neg k1,if_neg k2,if_neg k3,if_neg k4,if_neg k5,if_neg k6,if_neg k7,if_pos (Or.inl k8)] at hz
  by_cases ho0:op=0
  case neg=>
   obtain rfl:z=false:=by rw[←hz];simp[ho0]
   simp only[go_sem,s5 k8,k1,k2,k3,k4,k5,k6,k7,ho0]
  by_cases hn0:num=0
  case neg=>
   obtain rfl:z=false:=by rw[←hz];simp[hn0]
   simp only[go_sem,s5 k8,k1,k2,k3,k4,k5,k6,k7,s5 ho0,hn0]
  simp only[go_sem,s5 k8,k1,k2,k3,k4,k5,k6,k7,s5 ho0,s5 hn0]
  refine am ab (fun s β ds w h=>h.1.2) rfl (by simp only[go_sem];exact bU ho name false) (by simp only[go_sem];rfl) ?_
  rintro _ rfl
  cases hnm:aS false name
  ·obtain rfl:z=false:=by rw[←hz];simp[hnm]
   simp only[go_sem,s5 k8,k1,k2,k3,k4,k5,k6,k7,s5 ho0,s5 hn0]
  by_cases hln:kids.length=2
  case neg=>
   obtain rfl:z=false:=by rw[←hz];simp[hln]
   by_cases hlo:(2:Int)≤(kids.length:Int)
   ·have hhi:¬(kids.length:Int)≤2:=a6
    simp only[go_sem,s5 k8,k1,k2,k3,k4,k5,k6,k7,s5 ho0,s5 hn0,j5,hlo,hhi]
   ·simp only[go_sem,s5 k8,k1,k2,k3,k4,k5,k6,k7,s5 ho0,s5 hn0,j5,hlo]
  have hlo:(2:Int)≤(kids.length:Int):=a6
  have hhi:(kids.length:Int)≤2:=a6
  obtain rfl:z=true:=by rw[←hz];simp[ho0,hn0,hnm,hln]
  simp only[go_sem,s5 k8,k1,k2,k3,k4,k5,k6,k7,s5 ho0,s5 hn0,j5,hlo,hhi]
 by_cases k9:kind=9
 ·rw[if_neg k1,if_neg k2,if_neg k3,if_neg k4,if_neg k5,if_neg k6,if_neg k7,if_pos (Or.inr k9)] at hz
  by_cases ho0:op=0
  case neg=>
   obtain rfl:z=false:=by rw[←hz];simp[ho0]
   simp only[go_sem,s5 k9,k1,k2,k3,k4,k5,k6,k7,k8,ho0]
  by_cases hn0:num=0
  case neg=>
   obtain rfl:z=false:=by rw[←hz];simp[hn0]
   simp only[go_sem,s5 k9,k1,k2,k3,k4,k5,k6,k7,k8,s5 ho0,hn0]
  simp only[go_sem,s5 k9,k1,k2,k3,k4,k5,k6,k7,k8,s5 ho0,s5 hn0]
  refine am ab (fun s β ds w h=>h.1.2) rfl (by simp only[go_sem];exact bU ho name false) (by simp only[go_sem];rfl) ?_
  rintro _ rfl
  cases hnm:aS false name
  ·obtain rfl:z=false:=by rw[←hz];simp[hnm]
   simp only[go_sem,s5 k9,k1,k2,k3,k4,k5,k6,k7,k8,s5 ho0,s5 hn0]
  by_cases hln:kids.length=2
  case neg=>
   obtain rfl:z=false:=by rw[←hz];simp[hln]
   by_cases hlo:(2:Int)≤(kids.length:Int)
   ·have hhi:¬(kids.length:Int)≤2:=a6
    simp only[go_sem,s5 k9,k1,k2,k3,k4,k5,k6,k7,k8,s5 ho0,s5 hn0,j5,hlo,hhi]
   ·simp only[go_sem,s5 k9,k1,k2,k3,k4,k5,k6,k7,k8,s5 ho0,s5 hn0,j5,hlo]
  have hlo:(2:Int)≤(kids.length:Int):=a6
  have hhi:(kids.length:Int)≤2:=a6
  obtain rfl:z=true:=by rw[←hz];simp[ho0,hn0,hnm,hln]
  simp only[go_sem,s5 k9,k1,k2,k3,k4,k5,k6,k7,k8,s5 ho0,s5 hn0,j5,hlo,hhi]
 obtain rfl:z=false:=by rw[←hz];simp[k1,k2,k3,k4,k5,k6,k7,k8,k9]
 simp only[go_sem,k1,k2,k3,k4,k5,k6,k7,k8,k9]
end
section
attribute [local congr] Go.Am.ite_cc
open Go Go.Am Go.Asm
open Go.Src (cP aS oF oI jH ea szE bG Ex Stm)
theorem uR {o:cN} (ho:iK o):∀(N:Nat) (l:List Ex) (lv:Nat),bG l≤N→N≤1000000000→lv≤25→bR Tryz.prog 1 o 62 [jg l,iv .i64 lv] (· = bv (ea lv l)):=by
 intro N
 induction N using Nat.strongRecOn with
 |ind N ih=>
 intro l lv hsz hN hlv
 refine ax 0 1 o ac mixed Tryz.func62 rfl b9 [.tmp 4] rfl c8 c8 (by simp[Tryz.ntmps62]) fun b₀ β0 s0 w0 g=>?_
 obtain⟨z,hz⟩:∃z,ea lv l=z:=⟨_,rfl⟩
 rw[hz]
 have hll:=Src.Ez l
 have hwl:=ai (k:=lv) a6
 unfold jg
 by_cases hbad:0<l.length∧24<lv
 ·have h1:(0:Int)<(l.length:Int):=a6
  have h2:(24:Int)<(lv:Int):=a6
  obtain rfl:z=false:=by
   rw[←hz]
   cases l with
   |nil=>simp at hbad
   |cons e l=>obtain⟨kind,op,num,name,kids⟩:=e;simp[ea,jH];omega
  simp only[go_sem,j5,h1,h2]
 by_cases hl0:l=[]
 ·subst hl0
  obtain rfl:z=true:=by rw[←hz];simp[ea]
  simp only[go_sem,j7,w7]
  refine ap (fun m st=>m=0∧st.f 14=.one (.d (.sl []))∧st.f 15=iv .i64 0∧st.f 16=iv .i64 0) 0 ?_ ?_
  ·simp only[go_sem]
  rintro m f g1 ob1 ⟨rfl,q14,q15,q16⟩
  simp only at q14 q15 q16
  simp only[go_sem,q14,q15,q16]
 have hlp:0<l.length:=P4.2 hl0
 have hc:(0:Int)<(l.length:Int):=a6
 have hc2:¬(24:Int)<(lv:Int):=a6
 simp only[go_sem,j5,hc,hc2]
 refine ap (fun m st=>∃k:Nat,m+k=l.length∧(l.take k).all (jH lv)=true∧st.f 1=iv .i64 lv∧st.f 14=.one (.d (.sl (l.map exD)))∧st.f 15=iv .i64 l.length∧st.f 16=iv .i64 k) l.length ?_ ?_
 ·refine⟨0,rfl,a7,?_⟩
  simp only[go_sem]
 rintro m f g1 ob1 ⟨k,hk,hall,q1,q14,q15,q16⟩
 simp only at q1 q14 q15 q16
 have hw:=ai (k:=k) a6
 by_cases hlt:k<l.length
 case neg=>
  have hki:¬(k:Int)<(l.length:Int):=a6
  obtain rfl:k=l.length:=a6
  rw[l6 (j9 _)] at hall
  obtain rfl:z=true:=by rw[←hz,Src.xb];exact hall
  simp only[go_sem,q15,q16,hki]
 have hki:(k:Int)<(l.length:Int):=a6
 have hk0:(0:Int)≤(k:Int):=a6
 obtain⟨e,he⟩:=getq hlt
 obtain⟨kind,op,num,name,kids⟩:=e
 have hszk:=Src.HE (l4 he)
 rw[szE] at hszk
 have hE:exD (.mk kind op num name kids)=[.int .i64 kind,.int .i64 op,.int .u32 num,.str name,.sl (kids.map exD)]:=by simp only[exD,bh]
 have hF:=xZ ho (.mk kind op num name kids)
 have hK:=ih (bG kids) a6 kids (lv+1) (j9 _) a6 a6
 unfold exV at hF
 unfold jg at hK
 rw[hE] at hF
 simp only[l5,w7] at hF
 have hl24:lv≤24:=a6
 simp only[go_sem,q1,q14,q15,q16,hki,hk0,he,hE]
 refine am ab (fun s β ds w h=>h.1.2) rfl (by simp only[go_sem];exact hF) (by simp only[go_sem];rfl) ?_
 rintro _ rfl
 cases hf:oF kind op num name kids.length
 ·obtain rfl:z=false:=by rw[←hz,Src.xb];exact Src.all_false he (by simp[jH,hf])
  simp only[go_sem,hf]
 simp only[go_sem,q1,hwl]
 refine am ab (fun s β ds w h=>h.1.2) rfl (by simp only[go_sem,q1,hwl];exact hK) (by simp only[go_sem];rfl) ?_
 rintro _ rfl
 cases hr:ea (lv+1) kids
 ·obtain rfl:z=false:=by rw[←hz,Src.xb];exact Src.all_false he (by simp[jH,hf,hr])
  simp only[go_sem]
 ·simp only[go_sem,q16,hw]
  refine ah (m-1) a6 ⟨k+1,a6,Src.OZ hall he (by simp[jH,hf,hr,hl24]),?_⟩
  simp only[go_sem,q1,q14,q15]
theorem ya {o:cN} (ho:iK o) (e:Stm):bR Tryz.prog 1 o 61 [smV e] (· = bv (match e with|.mk kind name e th el=>oI kind name e.length th.length el.length)):=by
 obtain⟨kind,name,e,th,el⟩:=e
 refine ax 0 1 o ac mixed Tryz.func61 rfl b9 [.tmp 2] rfl c8 c8 (by simp[Tryz.ntmps61]) fun b₀ β0 s0 w0 g=>?_
 simp only
 obtain⟨z,hz⟩:∃z,oI kind name e.length th.length el.length=z:=⟨_,rfl⟩
 rw[hz]
 unfold smV
 simp only[smD,bh,fD,l5,w7]
 unfold oI at hz
 by_cases k1:kind=1
 ·rw[if_pos k1] at hz
  simp only[go_sem,s5 k1]
  refine am ab (fun s β ds w h=>h.1.2) rfl (by simp only[go_sem];exact bU ho name true) (by simp only[go_sem];rfl) ?_
  rintro _ rfl
  cases hnm:aS true name
  ·obtain rfl:z=false:=by rw[←hz];simp[hnm]
   simp only[go_sem,s5 k1]
  have e0:(0:Int)≤(e.length:Int):=a6
  by_cases hlo:(e.length:Int)<1
  ·obtain rfl:z=false:=by rw[←hz,hnm,w9];exact y9 a6
   simp only[go_sem,s5 k1,j5,hlo]
  by_cases hhi:(1:Int)<(e.length:Int)
  ·obtain rfl:z=false:=by rw[←hz,hnm,w9];exact y9 a6
   simp only[go_sem,s5 k1,j5,hlo,hhi]
  by_cases hth:(th.length:Int)=0
  case neg=>
   obtain rfl:z=false:=by rw[←hz,hnm,w9];exact y9 a6
   simp only[go_sem,s5 k1,j5,hlo,hhi,hth]
  by_cases hel:(el.length:Int)=0
  case neg=>
   obtain rfl:z=false:=by rw[←hz,hnm,w9];exact y9 a6
   simp only[go_sem,s5 k1,j5,hlo,hhi,hth,hel]
  obtain rfl:z=true:=by rw[←hz,hnm,w9];exact E8 a6
  simp only[go_sem,s5 k1,j5,hlo,hhi,hth,hel]
 by_cases k2:kind=2
 ·rw[if_neg k1,if_pos k2] at hz
  simp only[go_sem,s5 k2,k1]
  refine am ab (fun s β ds w h=>h.1.2) rfl (by simp only[go_sem];exact bU ho name true) (by simp only[go_sem];rfl) ?_
  rintro _ rfl
  cases hnm:aS true name
  ·obtain rfl:z=false:=by rw[←hz];simp[hnm]
   simp only[go_sem,s5 k2,k1]
  have e0:(0:Int)≤(e.length:Int):=a6
  by_cases hlo:(e.length:Int)<2
  ·obtain rfl:z=false:=by rw[←hz,hnm,w9];exact y9 a6
   simp only[go_sem,s5 k2,k1,j5,hlo]
  by_cases hhi:(2:Int)<(e.length:Int)
  ·obtain rfl:z=false:=by rw[←hz,hnm,w9];exact y9 a6
   simp only[go_sem,s5 k2,k1,j5,hlo,hhi]
  by_cases hth:(th.length:Int)=0
  case neg=>
   obtain rfl:z=false:=by rw[←hz,hnm,w9];exact y9 a6
   simp only[go_sem,s5 k2,k1,j5,hlo,hhi,hth]
  by_cases hel:(el.length:Int)=0
  case neg=>
   obtain rfl:z=false:=by rw[←hz,hnm,w9];exact y9 a6
   simp only[go_sem,s5 k2,k1,j5,hlo,hhi,hth,hel]
  obtain rfl:z=true:=by rw[←hz,hnm,w9];exact E8 a6
  simp only[go_sem,s5 k2,k1,j5,hlo,hhi,hth,hel]
 by_cases k3:kind=3
 ·rw[if_neg k1,if_neg k2,if_pos k3] at hz
  simp only[go_sem,s5 k3,k1,k2]
  refine am ab (fun s β ds w h=>h.1.2) rfl (by simp only[go_sem];exact bU ho name false) (by simp only[go_sem];rfl) ?_
  rintro _ rfl
  cases hnm:aS false name
  ·obtain rfl:z=false:=by rw[←hz];simp[hnm]
   simp only[go_sem,s5 k3,k1,k2]
  have e0:(0:Int)≤(e.length:Int):=a6
  by_cases hlo:(e.length:Int)<1
  ·obtain rfl:z=false:=by rw[←hz,hnm,w9];exact y9 a6
   simp only[go_sem,s5 k3,k1,k2,j5,hlo]
  by_cases hhi:(1:Int)<(e.length:Int)
  ·obtain rfl:z=false:=by rw[←hz,hnm,w9];exact y9 a6
   simp only[go_sem,s5 k3,k1,k2,j5,hlo,hhi]
  by_cases hth:(th.length:Int)=0
  case neg=>
   obtain rfl:z=false:=by rw[←hz,hnm,w9];exact y9 a6
   simp only[go_sem,s5 k3,k1,k2,j5,hlo,hhi,hth]
  by_cases hel:(el.length:Int)=0
  case neg=>
   obtain rfl:z=false:=by rw[←hz,hnm,w9];exact y9 a6
   simp only[go_sem,s5 k3,k1,k2,j5,hlo,hhi,hth,hel]
  obtain rfl:z=true:=by rw[←hz,hnm,w9];exact E8 a6
  simp only[go_sem,s5 k3,k1,k2,j5,hlo,hhi,hth,hel]
 by_cases k4:kind=4
 ·rw[if_neg k1,if_neg k2,if_neg k3,if_pos k4] at hz
  simp only[go_sem,s5 k4,k1,k2,k3]
  refine am ab (fun s β ds w h=>h.1.2) rfl (by simp only[go_sem];exact bU ho name false) (by simp only[go_sem];rfl) ?_
  rintro _ rfl
  cases hnm:aS false name
  ·obtain rfl:z=false:=by rw[←hz];simp[hnm]
   simp only[go_sem,s5 k4,k1,k2,k3]
  have e0:(0:Int)≤(e.length:Int):=a6
  by_cases hlo:(e.length:Int)<1
  ·obtain rfl:z=false:=by rw[←hz,hnm,w9];exact y9 a6
   simp only[go_sem,s5 k4,k1,k2,k3,j5,hlo]
  by_cases hhi:(1:Int)<(e.length:Int)
  ·obtain rfl:z=false:=by rw[←hz,hnm,w9];exact y9 a6
   simp only[go_sem,s5 k4,k1,k2,k3,j5,hlo,hhi]
  obtain rfl:z=true:=by rw[←hz,hnm,w9];exact E8 a6
  simp only[go_sem,s5 k4,k1,k2,k3,j5,hlo,hhi]
 by_cases k5:kind=5
 ·rw[if_neg k1,if_neg k2,if_neg k3,if_neg k4,if_pos k5] at hz
  simp only[go_sem,s5 k5,k1,k2,k3,k4]
  refine am ab (fun s β ds w h=>h.1.2) rfl (by simp only[go_sem];exact bU ho name false) (by simp only[go_sem];rfl) ?_
  rintro _ rfl
  cases hnm:aS false name
  ·obtain rfl:z=false:=by rw[←hz];simp[hnm]
   simp only[go_sem,s5 k5,k1,k2,k3,k4]
  have e0:(0:Int)≤(e.length:Int):=a6
  by_cases hlo:(e.length:Int)<1
  ·obtain rfl:z=false:=by rw[←hz,hnm,w9];exact y9 a6
   simp only[go_sem,s5 k5,k1,k2,k3,k4,j5,hlo]
  by_cases hhi:(1:Int)<(e.length:Int)
  ·obtain rfl:z=false:=by rw[←hz,hnm,w9];exact y9 a6
   simp only[go_sem,s5 k5,k1,k2,k3,k4,j5,hlo,hhi]
  by_cases hel:(el.length:Int)=0
  case neg=>
   obtain rfl:z=false:=by rw[←hz,hnm,w9];exact y9 a6
   simp only[go_sem,s5 k5,k1,k2,k3,k4,j5,hlo,hhi,hel]
  obtain rfl:z=true:=by rw[←hz,hnm,w9];exact E8 a6
  simp only[go_sem,s5 k5,k1,k2,k3,k4,j5,hlo,hhi,hel]
 by_cases k6:kind=6
 ·rw[if_neg k1,if_neg k2,if_neg k3,if_neg k4,if_neg k5,if_pos k6] at hz
  simp only[go_sem,s5 k6,k1,k2,k3,k4,k5]
  refine am ab (fun s β ds w h=>h.1.2) rfl (by simp only[go_sem];exact bU ho name true) (by simp only[go_sem];rfl) ?_
  rintro _ rfl
  cases hnm:aS true name
  ·obtain rfl:z=false:=by rw[←hz];simp[hnm]
   simp only[go_sem,s5 k6,k1,k2,k3,k4,k5]
  have e0:(0:Int)≤(e.length:Int):=a6
  have hlo:¬(e.length:Int)<0:=a6
  by_cases hhi:(6:Int)<(e.length:Int)
  ·obtain rfl:z=false:=by rw[←hz,hnm,w9];exact y9 a6
   simp only[go_sem,s5 k6,k1,k2,k3,k4,k5,j5,hlo,hhi]
  by_cases hth:(th.length:Int)=0
  case neg=>
   obtain rfl:z=false:=by rw[←hz,hnm,w9];exact y9 a6
   simp only[go_sem,s5 k6,k1,k2,k3,k4,k5,j5,hlo,hhi,hth]
  by_cases hel:(el.length:Int)=0
  case neg=>
   obtain rfl:z=false:=by rw[←hz,hnm,w9];exact y9 a6
   simp only[go_sem,s5 k6,k1,k2,k3,k4,k5,j5,hlo,hhi,hth,hel]
  obtain rfl:z=true:=by rw[←hz,hnm,w9];exact E8 a6
  simp only[go_sem,s5 k6,k1,k2,k3,k4,k5,j5,hlo,hhi,hth,hel]
 by_cases k7:kind=7
 ·rw[if_neg k1,if_neg k2,if_neg k3,if_neg k4,if_neg k5,if_neg k6,if_pos k7] at hz
  simp only[go_sem,s5 k7,k1,k2,k3,k4,k5,k6]
  refine am ab (fun s β ds w h=>h.1.2) rfl (by simp only[go_sem];exact bU ho name false) (by simp only[go_sem];rfl) ?_
  rintro _ rfl
  cases hnm:aS false name
  ·obtain rfl:z=false:=by rw[←hz];simp[hnm]
   simp only[go_sem,s5 k7,k1,k2,k3,k4,k5,k6]
  have e0:(0:Int)≤(e.length:Int):=a6
  have hlo:¬(e.length:Int)<0:=a6
  by_cases hhi:(1:Int)<(e.length:Int)
  ·obtain rfl:z=false:=by rw[←hz,hnm,w9];exact y9 a6
   simp only[go_sem,s5 k7,k1,k2,k3,k4,k5,k6,j5,hlo,hhi]
  by_cases hth:(th.length:Int)=0
  case neg=>
   obtain rfl:z=false:=by rw[←hz,hnm,w9];exact y9 a6
   simp only[go_sem,s5 k7,k1,k2,k3,k4,k5,k6,j5,hlo,hhi,hth]
  by_cases hel:(el.length:Int)=0
  case neg=>
   obtain rfl:z=false:=by rw[←hz,hnm,w9];exact y9 a6
   simp only[go_sem,s5 k7,k1,k2,k3,k4,k5,k6,j5,hlo,hhi,hth,hel]
  obtain rfl:z=true:=by rw[←hz,hnm,w9];exact E8 a6
  simp only[go_sem,s5 k7,k1,k2,k3,k4,k5,k6,j5,hlo,hhi,hth,hel]
 obtain rfl:z=false:=by rw[←hz];simp[k1,k2,k3,k4,k5,k6,k7]
 simp only[go_sem,k1,k2,k3,k4,k5,k6,k7]
end
section
attribute [local congr] Go.Am.ite_cc
open Go Go.Am Go.Asm
open Go.Src (cP aS oF oI jH ea iS dI eG fM dZ szE bG szS bB Ex Stm)
theorem uS {o:cN} (ho:iK o):∀(N:Nat) (l:List Stm) (lv:Nat),bB l≤N→N≤1000000000→lv≤25→bR Tryz.prog 1 o 43 [jz l,iv .i64 lv] (· = bv (dI lv l)):=by
 intro N
 induction N using Nat.strongRecOn with
 |ind N ih=>
 intro l lv hsz hN hlv
 refine ax 0 1 o ac mixed Tryz.func43 rfl b9 [.tmp 4] rfl c8 c8 (by simp[Tryz.ntmps43]) fun b₀ β0 s0 w0 g=>?_
 obtain⟨z,hz⟩:∃z,dI lv l=z:=⟨_,rfl⟩
 rw[hz]
 have hll:=Src.EA l
 have hwl:=ai (k:=lv) a6
 unfold jz
 by_cases hbad:0<l.length∧24<lv
 ·have h1:(0:Int)<(l.length:Int):=a6
  have h2:(24:Int)<(lv:Int):=a6
  obtain rfl:z=false:=by
   rw[←hz]
   cases l with
   |nil=>simp at hbad
   |cons e l=>
     obtain⟨kind,name,e,th,el⟩:=e
     have:¬lv≤24:=a6
     simp[dI,iS,this]
  simp only[go_sem,j5,h1,h2]
 by_cases hl0:l=[]
 ·subst hl0
  obtain rfl:z=true:=by rw[←hz];simp[dI]
  simp only[go_sem,j7,w7]
  refine ap (fun m st=>m=0∧st.f 14=.one (.d (.sl []))∧st.f 15=iv .i64 0∧st.f 16=iv .i64 0) 0 ?_ ?_
  ·simp only[go_sem]
  rintro m f g1 ob1 ⟨rfl,q14,q15,q16⟩
  simp only at q14 q15 q16
  simp only[go_sem,q14,q15,q16]
 have hlp:0<l.length:=P4.2 hl0
 have hc:(0:Int)<(l.length:Int):=a6
 have hc2:¬(24:Int)<(lv:Int):=a6
 simp only[go_sem,j5,hc,hc2]
 refine ap (fun m st=>∃k:Nat,m+k=l.length∧(l.take k).all (iS lv)=true∧st.f 1=iv .i64 lv∧st.f 14=.one (.d (.sl (l.map smD)))∧st.f 15=iv .i64 l.length∧st.f 16=iv .i64 k) l.length ?_ ?_
 ·refine⟨0,rfl,a7,?_⟩
  simp only[go_sem]
 rintro m f g1 ob1 ⟨k,hk,hall,q1,q14,q15,q16⟩
 simp only at q1 q14 q15 q16
 have hw:=ai (k:=k) a6
 by_cases hlt:k<l.length
 case neg=>
  have hki:¬(k:Int)<(l.length:Int):=a6
  obtain rfl:k=l.length:=a6
  rw[l6 (j9 _)] at hall
  obtain rfl:z=true:=by rw[←hz,Src.xd];exact hall
  simp only[go_sem,q15,q16,hki]
 have hki:(k:Int)<(l.length:Int):=a6
 have hk0:(0:Int)≤(k:Int):=a6
 obtain⟨e,he⟩:=getq hlt
 obtain⟨kind,name,es,th,el⟩:=e
 have hszk:=Src.HF (l4 he)
 rw[szS] at hszk
 have hE:smD (.mk kind name es th el)=[.int .i64 kind,.str name,.sl (es.map exD),.sl (th.map smD),.sl (el.map smD)]:=by simp only[smD,bh,fD]
 have hF:=ya ho (.mk kind name es th el)
 have hX:=uR ho (bG es) es (lv+1) (j9 _) a6 a6
 have hT:=ih (bB th) a6 th (lv+1) (j9 _) a6 a6
 have hL:=ih (bB el) a6 el (lv+1) (j9 _) a6 a6
 unfold smV at hF
 unfold jg at hX
 unfold jz at hT hL
 rw[hE] at hF
 simp only[l5,w7] at hF
 have hl24:lv≤24:=a6
 simp only[go_sem,q1,q14,q15,q16,hki,hk0,he,hE]
 refine am ab (fun s β ds w h=>h.1.2) rfl (by simp only[go_sem];exact hF) (by simp only[go_sem];rfl) ?_
 rintro _ rfl
 cases hf:oI kind name es.length th.length el.length
 ·obtain rfl:z=false:=by rw[←hz,Src.xd];exact Src.all_false he (by simp[iS,hf])
  simp only[go_sem,hf]
 simp only[go_sem,q1,hwl]
 refine am ab (fun s β ds w h=>h.1.2) rfl (by simp only[go_sem,q1,hwl];exact hX) (by simp only[go_sem];rfl) ?_
 rintro _ rfl
 cases hr:ea (lv+1) es
 ·obtain rfl:z=false:=by rw[←hz,Src.xd];exact Src.all_false he (by simp[iS,hf,hr])
  simp only[go_sem]
 simp only[go_sem,q1,hwl]
 refine am ab (fun s β ds w h=>h.1.2) rfl (by simp only[go_sem,q1,hwl];exact hT) (by simp only[go_sem];rfl) ?_
 rintro _ rfl
 cases ht:dI (lv+1) th
 ·obtain rfl:z=false:=by rw[←hz,Src.xd];exact Src.all_false he (by simp[iS,hf,hr,ht])
  simp only[go_sem]
 simp only[go_sem,q1,hwl]
 refine am ab (fun s β ds w h=>h.1.2) rfl (by simp only[go_sem,q1,hwl];exact hL) (by simp only[go_sem];rfl) ?_
 rintro _ rfl
 cases hel:dI (lv+1) el
 ·obtain rfl:z=false:=by rw[←hz,Src.xd];exact Src.all_false he (by simp[iS,hf,hr,ht,hel])
  simp only[go_sem]
 ·simp only[go_sem,q16,hw]
  refine ah (m-1) a6 ⟨k+1,a6,Src.OZ hall he (by simp[iS,hf,hr,ht,hel,hl24]),?_⟩
  simp only[go_sem,q1,q14,q15]
def szP (p:Src.Prog):Nat:=p.vars.length+p.arrays.length+p.funcs.length+(p.funcs.map fun f=>f.params.length+f.locals.length+bB f.body).sum
theorem mH {p:Src.Prog}{f:Src.Fn} (h:f∈p.funcs):f.params.length+f.locals.length+bB f.body≤szP p:=by
 have:∀l:List Src.Fn,f∈l→f.params.length+f.locals.length+bB f.body≤(l.map fun f=>f.params.length+f.locals.length+bB f.body).sum:=by
  intro l
  induction l with
  |nil=>intro h;cases h
  |cons x l ih=>
    intro h
    rw[l5,F3]
    rcases x9.1 h with rfl|h
    ·omega
    ·have:=ih h;omega
 have:=this _ h
 unfold szP
 omega
theorem zx {o:cN} (ho:iK o) (p:Src.Prog) (hsz:szP p≤1000000000):bR Tryz.prog 1 o 18 [eg p] (· = bv (dZ p)):=by
 refine ax 0 1 o ac mixed Tryz.func18 rfl b9 [.tmp 2] rfl c8 c8 (by simp[Tryz.ntmps18]) fun b₀ β0 s0 w0 g=>?_
 obtain⟨z,hz⟩:∃z,dZ p=z:=⟨_,rfl⟩
 rw[hz]
 obtain⟨vs,ars,fs⟩:=p
 have hszp:=hsz
 unfold szP at hsz
 simp only at hsz
 unfold dZ at hz
 simp only at hz
 unfold eg gU
 by_cases h1:fs.length<1
 ·have h1i:(fs.length:Int)<1:=a6
  obtain rfl:z=false:=by rw[←hz];simp;omega
  simp only[go_sem,j5,h1i]
 have h1i:¬(fs.length:Int)<1:=a6
 by_cases h2:64<fs.length
 ·have h2i:(64:Int)<(fs.length:Int):=a6
  obtain rfl:z=false:=by rw[←hz];simp;omega
  simp only[go_sem,j5,h1i,h2i]
 have h2i:¬(64:Int)<(fs.length:Int):=a6
 have hA:=nq ho vs a6
 unfold jy at hA
 simp only[go_sem,j5,h1i,h2i]
 refine am ab (fun s β ds w h=>h.1.2) rfl (by simp only[go_sem];exact hA) (by simp only[go_sem];rfl) ?_
 rintro _ rfl
 cases hv:vs.all cP
 ·obtain rfl:z=false:=by rw[←hz];simp[hv]
  simp only[go_sem]
 simp only[go_sem,j5]
 refine ap (fun m st=>∃k:Nat,m+k=ars.length∧(ars.take k).all fM=true∧st.f 1=.one (.ptr 1 (st.gen 1) 0)∧st.obj 1=some [.d (.sl (vs.map fun s=>[.str s])),.d (.sl (ars.map arD)),.d (.sl (fs.map fnD))]∧st.f 24=.one (.d (.sl (ars.map arD)))∧st.f 25=iv .i64 ars.length∧st.f 26=iv .i64 k) ars.length ?_ ?_
 ·refine⟨0,rfl,a7,?_⟩
  simp only[go_sem]
 clear g
 rintro m f g ob ⟨k,hk,hall,q1,o1,q24,q25,q26⟩
 simp only at q1 o1 q24 q25 q26
 have hw:=ai (k:=k) a6
 by_cases hlt:k<ars.length
 ·have hki:(k:Int)<(ars.length:Int):=a6
  have hk0:(0:Int)≤(k:Int):=a6
  obtain⟨⟨nm,sz⟩,he⟩:=getq hlt
  simp only[go_sem,q1,o1,q24,q25,q26,hki,hk0,he,arD]
  refine am ab (fun s β ds w h=>h.1.2) rfl (by simp only[go_sem];exact kU ho nm) (by simp only[go_sem];rfl) ?_
  rintro _ rfl
  cases hb:cP nm
  ·obtain rfl:z=false:=by rw[←hz,Src.all_false (p:=fM) he (by simp[fM,hb])];simp
   simp only[go_sem]
  by_cases hs1:sz<1
  ·obtain rfl:z=false:=by rw[←hz,Src.all_false (p:=fM) he (by simp[fM,hb];omega)];simp
   simp only[go_sem,hs1]
  by_cases hs2:4096<sz
  ·obtain rfl:z=false:=by rw[←hz,Src.all_false (p:=fM) he (by simp[fM,hb];omega)];simp
   simp only[go_sem,hs1,hs2]
  simp only[go_sem,hs1,hs2,q26,hw]
  refine ah (m-1) a6 ⟨k+1,a6,Src.OZ hall he (by simp[fM,hb];omega),?_⟩
  simp only[go_sem,q1,o1,q24,q25]
 have hki:¬(k:Int)<(ars.length:Int):=a6
 obtain rfl:k=ars.length:=a6
 rw[l6 (j9 _)] at hall
 simp only[go_sem,q1,o1,q25,q26,hki,j5]
 refine ap (fun m st=>∃k:Nat,m+k=fs.length∧(fs.take k).all eG=true∧st.f 46=.one (.d (.sl (fs.map fnD)))∧st.f 47=iv .i64 fs.length∧st.f 48=iv .i64 k) fs.length ?_ ?_
 ·refine⟨0,rfl,a7,?_⟩
  simp only[go_sem]
 clear q1 o1 q24 q25 q26 hlt hki hw hk
 rintro m f g ob ⟨k,hk,hallF,q46,q47,q48⟩
 simp only at q46 q47 q48
 have hw:=ai (k:=k) a6
 by_cases hlt:k<fs.length
 case neg=>
  have hki:¬(k:Int)<(fs.length:Int):=a6
  obtain rfl:k=fs.length:=a6
  rw[l6 (j9 _)] at hallF
  obtain rfl:z=true:=by rw[←hz,hall,hallF,hv,E8 (show 1≤fs.length∧fs.length≤64 by omega)];rfl
  simp only[go_sem,q47,q48,hki]
 have hki:(k:Int)<(fs.length:Int):=a6
 have hk0:(0:Int)≤(k:Int):=a6
 obtain⟨x,he⟩:=getq hlt
 have hszf:=mH (p:=⟨vs,ars,fs⟩) (l4 he)
 obtain⟨nm,ps,ls,w,body⟩:=x
 simp only at hszf
 have hAp:=nq ho ps a6
 have hAl:=nq ho ls a6
 have hB:=uS ho (bB body) body 1 (j9 _) a6 a6
 unfold jy at hAp hAl
 unfold jz at hB
 have hfl:∀{y:Bool},eG ⟨nm,ps,ls,w,body⟩=y→y=false→z=false:=fun h1 h2=>by rw[←hz,Src.all_false (p:=eG) he (by rw[h1,h2])];simp
 simp only[go_sem,q46,q47,q48,hki,hk0,he,fnD]
 refine am ab (fun s β ds w h=>h.1.2) rfl (by simp only[go_sem];exact kU ho nm) (by simp only[go_sem];rfl) ?_
 rintro _ rfl
 cases hb:cP nm
 ·obtain rfl:=hfl rfl (by simp[eG,hb])
  simp only[go_sem]
 by_cases hp6:6<ps.length
 ·have hp6i:(6:Int)<(ps.length:Int):=a6
  obtain rfl:=hfl rfl (by simp[eG,hb];omega)
  simp only[go_sem,j5,hp6i]
 have hp6i:¬(6:Int)<(ps.length:Int):=a6
 have hp6':ps.length≤6:=a6
 simp only[go_sem,j5,hp6i]
 refine am ab (fun s β ds w h=>h.1.2) rfl (by simp only[go_sem];exact hAp) (by simp only[go_sem];rfl) ?_
 rintro _ rfl
 cases hb2:ps.all cP
 ·obtain rfl:=hfl rfl (by simp only[eG,hb,hp6',hb2];simp)
  simp only[go_sem]
 simp only[go_sem]
 refine am ab (fun s β ds w h=>h.1.2) rfl (by simp only[go_sem];exact hAl) (by simp only[go_sem];rfl) ?_
 rintro _ rfl
 cases hb3:ls.all cP
 ·obtain rfl:=hfl rfl (by simp only[eG,hb,hp6',hb2,hb3];simp)
  simp only[go_sem]
 simp only[go_sem]
 refine am ab (fun s β ds w h=>h.1.2) rfl (by simp only[go_sem];exact hB) (by simp only[go_sem];rfl) ?_
 rintro _ rfl
 cases hb4:dI 1 body
 ·obtain rfl:=hfl rfl (by simp only[eG,hb,hp6',hb2,hb3,hb4];simp)
  simp only[go_sem]
 simp only[go_sem,q48,hw]
 refine ah (m-1) a6 ⟨k+1,a6,Src.OZ hallF he (by simp only[eG,hb,hp6',hb2,hb3,hb4];simp),?_⟩
 simp only[go_sem,q46,q47]
end
end Go.Proofs.YtbojbioflppbdaaGreatDoor
namespace Go.Am
section
section
variable {w:World}{s:St}{a:Act}{o:Oper}{ms:Array (String×TypeId)}{tI:TypeId}
section
variable {P:Program}{T:Nat→TI}{b₀:Bs}{rd:Option Nat}{Φ:St→Loc→List Deferred→World→Prop}{B:Nat}{Ψ:fP}{Ψ0:Pan}
theorem xI (hT:aQ P T) (hm:P.follows .mixedOrders=true) (hΦ:aW b₀ Φ) {N:Nat}{x y:Code}{β:Loc}{ds:List Deferred}{Q:Exit→Act→World→Prop} (hcm:gy x=true) (hc:codeOk N x=true) (hr:Rel b₀ N s β a w) (hφ:Φ s β ds w)
  {K K2:St→Prop} (h:wpC (spF P rd b₀ Φ B qZ) T x (bx fun e s'=>(e=.normal∧K s')∨(e=.ret∧K2 s')) s) (hy:∀s' β' a' ds' w',K s'→Rel b₀ N s' β' a' w'→Φ s' β' ds' w'→y.wpIn (fen rd) 0 P Q { a' with defers:=ds' } w')
  (hz:∀s' β' a' ds' w',K2 s'→Rel b₀ N s' β' a' w'→Φ s' β' ds' w'→Q .ret { a' with defers:=ds' } w'):(Code.seq x y).wpIn (fen rd) 0 P Q { a with defers:=ds } w:=by
 refine wpIn_seq (wpIn_mono (bN hT hm hΦ x hcm hc hr hφ h) (fun e a' w' hp=>?_))
 obtain⟨s',β',a0,ds',rfl,h1,h2,h3⟩:=hp
 rcases h1 with(⟨rfl,h1⟩|⟨rfl,h1⟩)|⟨_,_,h⟩
 ·exact hy _ _ _ _ _ h1 h2 h3
 ·exact hz _ _ _ _ _ h1 h2 h3
 ·exact h.elim
theorem xJ (hΦ:aW b₀ Φ){K:St→Prop}{k:Box K}{t:Nat}{args:Array Operand}{tys:Array TypeId} (ho:o.op=.call ⟨.value (.tmp t),args,tys⟩) {f:FuncId}{caps:List PC} (hf:s.f t=.one (.clo (f+1000000) caps)) {R:AV→(Nat→Nat)→Obs→Prop}
  (hp:eJ P f (caps.map jc++args.toList.map s.ev) s.gen s.obj R Ψ0) (hx:∀ch g' ob',Ψ0 ch g' ob'→Ψ ch ⟨s.f,g',ob'⟩) (hk:∀r g' ob',R r g' ob'→K (St.put ⟨s.f,g',ob'⟩ o.dst r)):bi (spF P rd b₀ Φ B Ψ) o s k:=by
 refine⟨fun s'=>∃r g' ob',R r g' ob'∧s'=St.put ⟨s.f,g',ob'⟩ o.dst r,fun N β a ds w hr hφ hdst next Q hn hx'=>?_,fun _ ⟨r,g',ob',hr,e⟩=>e▸hk r g' ob' hr⟩
 have hnd:aJ o=true:=by simp[aJ,ho]
 refine eY hnd ?_
 have hv:=hr.f t
 rw[hf] at hv
 simp only[ae,aw] at hv
 obtain⟨vs,hv1,hv2,hv3⟩:=hv
 rw[vy f] at hv1
 have hrun:(execOp a.eval o).run P w=.ok (.enter f (vs++args.map a.eval)) w:=by
  obtain⟨fn,h1,h2,h3⟩:=hp.1
  have h2:¬fn.body=none:=by intro h;rw[h] at h2;simp at h2
  have h3:¬fn.name = "runtime.NumGoroutine":=by simpa using h3
  simp[execOp,ho,resolve,Act.eval,hv1,Deferred.ofValue,invoke,callFunc,h1,h2,h3]
 unfold Oper.wp
 rw[hrun]
 simp only[Oper.upon]
 have hc:aE b₀ β s.gen s.obj w (caps.map jc) vs.toList:=lN (by simpa using hv2) (fun i pc hi=>let ⟨u,h1,h2⟩:=hv3 i pc hi;⟨u,by simpa using h1,h2⟩)
 have:=hp.2 b₀ N β a s.f w (vs.toList++args.toList.map a.eval) hr (hc.append (gv hr _))
 rw[show (vs.toList++args.toList.map a.eval).toArray=vs++args.map a.eval from G6 a7] at this
 refine this.mono fun e w' hE=>?_
 rcases hE with⟨v,r,g',ob',β',he,hR,hv,h1,h2,h3⟩|⟨ch,g',ob',β',he,hΨ,h1,h2,h3⟩
 ·subst he
  obtain⟨k1,k2⟩:=fU hr hdst hv h1 h2 h3
  exact⟨k1.defers,hn _ β' _ w' ⟨r,g',ob',hR,rfl⟩ k1 (hΦ _ _ _ _ _ _ _ hφ k2)⟩
 ·subst he
  have hk:eb b₀ β s.gen s.obj w β' g' ob' w':=h3.keep
  have ht:Tr b₀ β s w β' ⟨s.f,g',ob'⟩ w':=⟨h3.size,h3.old,hk,h3.os⟩
  exact hx' ch ⟨s.f,g',ob'⟩ β' a w' (hx _ _ _ hΨ) ⟨hr.defers,hr.size,fun i=>ae.keep hk _ (hr.f i),h1,h2,B1 hr.base h3.size⟩ (hΦ _ _ _ _ _ _ _ hφ ht)
theorem sM (hu:P.underlying tI=some (.interface ms)):(Op.equal tI .nilIface .nilIface).run P w=.ok true w:=by
 obtain⟨n,hn⟩:∃n,Op.maxDepth=n+1:=⟨_,rfl⟩
 unfold Op.equal
 rw[hn,Op.equalIn]
 simp[run_underlying hu]
theorem vG{tI tI2:TypeId}{d:Nat} (ho:o.op=.binOp .eql tI (.tmp d) (.const .nilIface) tI2) (hu:P.underlying tI=some (.interface ms)) (h:a.tmps.getD d undef=.nilIface) :
  (execOp a.eval o).run P w=.ok (.value (.bool true)) w:=by
 have e1:binOp .eql tI .nilIface .nilIface=(do pure (.bool (←Op.equal tI .nilIface .nilIface))):=rfl
 have e2:eqGuard .eql tI (.tmp d) (.const .nilIface) .nilIface .nilIface=pure ():=rfl
 have e3:a.eval (.tmp d)=.nilIface:=h
 have e4:a.eval (.const .nilIface)=.nilIface:=rfl
 unfold execOp
 simp only[ho,e3,e4,e1,e2,Sem.run_bind,Sem.run_pure,Result.andThen_ok,sM hu]
theorem xK (hT:aQ P T) (hm:P.follows .mixedOrders=true) {fn fnD:Func}{f:FuncId}{N id id2 bl d e:Nat}{oR oE:Oper}{x y:Code}
  (hf:P.funcs[f]? = some fnD) (hb:fnD.body=some (.seq (.region id #[oR] false) (.block bl (.seq (.region id2 #[oE] false) (.cond (.tmp e) x y))))) (hnn:(fnD.name == "runtime.NumGoroutine")=false)
  (hoR:oR.op=.call ⟨.builtin .recover,#[],#[]⟩) (hdR:oR.dst=some d) (gR:oR.guard=none) (hoE:oE.op=.binOp .eql tI (.tmp d) (.const .nilIface) tI) (hdE:oE.dst=some e) (gE:oE.guard=none) (hdn:d<fnD.ntmps) (hen:e<fnD.ntmps)
  (hres:fnD.results = #[]) (hcm:gy x=true) (hok:codeOk fnD.ntmps x=true) (huI:P.underlying tI=some (.interface ms)){β:Loc}{xs:List AV}{vs:List Value}{R:Ending→World→Prop} (hr:Rel b₀ N s β a w) (hv:aE b₀ β s.gen s.obj w xs vs) (hl:xs.length≤fnD.ntmps)
  {K:(Nat→Nat)→Obs→Prop} (hy:∀β0 s0 w0,wpC (spF P none b₀ (Cg b₀ β0 s0 w0) B qZ) T x (bx fun ex s'=>ex=.normal∧K s'.gen s'.obj) ⟨upd (upd (dC xs) d (.exact .nilIface)) e (bv true),s.gen,s.obj⟩)
  (hR:∀g' ob' β' w',K g' ob'→Rel b₀ N ⟨s.f,g',ob'⟩ β' a w'→Tr b₀ β s w β' ⟨s.f,g',ob'⟩ w'→∃v,(results fn a.tmps).run P w'=.ok v w'∧R (.returned v) w') :
  LeavesIn (fen none) 0 P fn a.tmps R [⟨.fn (.func f) vs.toArray,#[]⟩] .returning w:=by
 refine leavesIn_cons (f:=f) (args:=vs.toArray) a7 (fun h=>by cases h) ?_ (fun _ _=>trivial) ?_
 ·have h3:¬fnD.name = "runtime.NumGoroutine":=by simpa using hnn
  simp[invoke,callFunc,hf,hb,h3]
 refine callsDIn_of_wpSIn hf hb trivial fun c₀ cs hu=>?_
 apply wpSIn_seq
 apply wpSIn_region
 show wpOpsSIn (fen none) 0 P #[oR] _ [0] _ _ _
 simp only[wpOpsSIn,x6,v8]
 refine⟨fun _ _=>trivial,?_⟩
 rw[if_pos (by simp[Region.wanted,gR])]
 have hrun:∀(a:Act) (w:World),(execOp a.eval oR).run P w=.ok .recover w:=fun a w=>by simp[execOp,hoR,resolve,invoke,builtin]
 rw[hrun]
 simp only[recoverD,hu,hdR,Exit.thenS]
 refine wpSIn_of_wpIn rfl ?_
 have hr0:=lT (N:=fnD.ntmps) (fa:=s.f) hl hr hv
 have hr1:=hr0.put (dst:=some d) (fun d' h=>by cases h;exact hdn) (x:=.exact .nilIface) (v:=.nilIface) (by simp only[ae])
 refine wpIn_block (wpIn_seq (wpIn_region ?_))
 show wpOpsIn (fen none) 0 P #[oE] _ [0] _ _
 simp only[wpOpsIn,x6,v8]
 rw[if_pos (by simp[Region.wanted,gE])]
 have hvd:=hr1.f d
 simp only[St.put,upd,if_pos,ae] at hvd
 refine⟨fun _ _=>trivial,?_⟩
 rw[show (fen none).round=none from rfl,Oper.semAt_none]
 rw[vG hoE huI hvd,Oper.uponIn_value]
 simp only[hdE]
 have hr2:Rel b₀ fnD.ntmps ⟨upd (upd (dC xs) d (.exact .nilIface)) e (bv true),s.gen,s.obj⟩ β _ w:=hr1.put (dst:=some e) (fun d' h=>by cases h;exact hen) (x:=bv true) (v:=.bool true) (by simp only[ae,aw,bv];exact .bool _)
 have hve:=hr2.f e
 simp only[upd,if_pos,bv,ae,aw] at hve
 refine wpIn_cond (t:=true) hve.inv_bool ?_
 rw[if_pos a8]
 have hy2:=bN (rd:=none) (B:=B) (ds:=[]) hT hm aa x hcm hok hr2 ⟨rfl,Tr.refl⟩ (hy β ⟨upd (upd (dC xs) d (.exact .nilIface)) e (bv true),s.gen,s.obj⟩ w)
 refine wpIn_mono hy2 (fun ex a' w' hp=>?_)
 obtain⟨s',β',a0,ds',rfl,h1,h2,rfl,h4⟩:=hp
 rcases h1 with⟨rfl,h1⟩|⟨_,_,h⟩
 case inr=>exact h.elim
 have hk:eb b₀ β s.gen s.obj w β' s'.gen s'.obj w':=h4.keep
 have ht:Tr b₀ β s w β' ⟨s.f,s'.gen,s'.obj⟩ w':=⟨h4.size,h4.old,hk,h4.os⟩
 have hrA:Rel b₀ N ⟨s.f,s'.gen,s'.obj⟩ β' a w':=⟨hr.defers,hr.size,fun i=>ae.keep hk _ (hr.f i),h2.obj,h2.inj,B1 hr.base h4.size⟩
 obtain⟨v,hv1,hv2⟩:=hR _ _ _ _ h1 hrA ht
 refine⟨rfl,.returning,by rw[←hu],.tuple #[],by simp[results,hres],?_⟩
 simp only[settle,LeavesIn]
 exact⟨v,hv1,hv2⟩
end
section
variable {S:Sp}{T:Nat→TI}{ops:Array Oper}{ids:List Nat}{f:Nat→AV}{g:Nat→Nat}{ob:Nat→Option (List C)}{rd hd:List Nat}{K:St→Prop}{k:Box K}
theorem cU{ef:List Nat} (hg:GdE ops ⟨o,rd,hd,ef,true⟩ ⟨f,g,ob⟩) (h:∀K':St→Prop,(∀s'',K s''→K' s'')→opA S T o ⟨f,g,ob⟩ (bx K')):ip S T ops ids [⟨o,rd,hd,ef,true⟩] ⟨f,g,ob⟩ k:=by
 unfold ip;exact⟨h,hg⟩
end
end
end
end Go.Am
namespace Go.Src
section
open Go.Asm (Str digit letter iz gq)
section
def PR.Sz {α:Type} (sz:α→Nat) (x n:Nat) (p:PR α):Prop:=∀a m,p=.ok a m→sz a+n≤x+m
theorem PR.bind_sz {α β:Type}{sa:α→Nat}{sb:β→Nat}{x y n:Nat}{p:PR α}{f:α→Nat→PR β} (h:p.Sz sa x n) (h':∀a m,(f a m).Sz sb (sa a+y) m):(p.bind f).Sz sb (x+y) n:=by
 intro b m hb
 cases p with
 |ok a k=>
   have h1:=h a k rfl
   have h2:=h' a k b m hb
   omega
 |no k=>cases hb
variable {k n:Nat}{α:Type}{s:Str}{sa:α→Nat}
theorem PR.sz_no{x n m:Nat}:(PR.no m:PR α).Sz sa x n:=fun _ _ e=>by cases e
theorem PR.sz_ok{x n m:Nat}{a:α} (h:sa a+n≤x+m):(PR.ok a m).Sz sa x n:=fun b k e=>by cases e;exact h
theorem PR.Sz.of{x n y m:Nat}{p:PR α} (h:p.Sz sa x n) (hy:x+m≤y+n):p.Sz sa y m:=fun a k e=>by have:=h a k e;omega
def z0 {α:Type} (_:α):Nat:=0
theorem xe:∀(l m:List Ex),bG (l++m)=bG l+bG m
 |[],m=>by simp[bG]
 |e::l,m=>by simp only[A0,bG,xe l m];omega
theorem xf:∀(l m:List Stm),bB (l++m)=bB l+bB m
 |[],m=>by simp[bB]
 |e::l,m=>by simp only[A0,bB,xf l m];omega
section
variable {ts:List Tok}
theorem kD:(takeN ts k n).Sz (fun _=>1) 0 n:=fun a m h=>by have:=ff a m h;show 1+n≤0+m;omega
theorem cl {l:List Str}{n:Nat}:(bA ts l n).Sz (fun _=>0) 0 n:=fun a m h=>by have:=bX a m h;show 0+n≤0+m;omega
mutual
theorem fF:∀(k least n:Nat),(cC ts k least n).Sz szE 0 n
 |0,_,_=>by unfold cC;exact PR.sz_no
 |k+1,least,n=>by
   unfold cC
   exact PR.bind_sz (y:=0) (xh k n) fun a m=>xg k least a m
theorem xg:∀(k least:Nat) (left:Ex) (n:Nat),(gf ts k least left n).Sz szE (szE left) n
 |0,_,_,_=>by unfold gf;exact PR.sz_no
 |k+1,least,left,n=>by
   unfold gf
   split
   ·exact PR.sz_ok a6
   ·exact(PR.bind_sz (x:=0) (y:=szE left+1) (fF k _ (n+1)) fun b q=>(xg k least _ q).of (by simp only[szE,bG];omega)).of a6
theorem xh:∀(k n:Nat),(eN ts k n).Sz szE 0 n
 |0,_=>by unfold eN;exact PR.sz_no
 |k+1,n=>by
   unfold eN
   split
   ·exact PR.bind_sz (y:=0) kD fun a m=>PR.sz_ok (by simp only[szE,bG];omega)
   split
   ·exact(PR.bind_sz (x:=0) (y:=1) cl fun a m=>PR.sz_ok (by simp only[szE,bG];omega)).of (m:=n) (y:=0) (n:=n+1) a6
   split
   ·exact(PR.bind_sz (x:=0) (y:=0) (fF k 1 (n+1)) fun a m=>(PR.bind_sz (x:=0) (y:=szE a) cl fun b q=>PR.sz_ok (sa:=szE) a6).of a6).of (m:=n) (y:=0) (n:=n+1) a6
   split
   ·exact(PR.bind_sz (x:=0) (y:=1) (xh k (n+1)) fun a m=>PR.sz_ok (by simp only[szE,bG];omega)).of (m:=n) (y:=0) (n:=n+1) a6
   refine PR.bind_sz (x:=0) (y:=0) kD fun a m=>?_
   split
   ·exact(PR.bind_sz (x:=0) (y:=1) (fF k 1 (m+1)) fun a m=>(PR.bind_sz (x:=0) (y:=szE a+1) cl fun b q=>PR.sz_ok (by simp only[szE,bG];omega)).of a6).of (n:=m+1) a6
   split
   ·exact(PR.bind_sz (x:=0) (y:=1) (xi k (m+1)) fun a m=>PR.sz_ok (by simp only[szE,bG];omega)).of (n:=m+1) a6
   ·exact PR.sz_ok (by simp only[szE,bG];omega)
theorem xi:∀(k n:Nat),(fj ts k n).Sz bG 0 n
 |0,_=>by unfold fj;exact PR.sz_no
 |k+1,n=>by
   unfold fj
   split
   ·exact PR.sz_ok (by simp only[bG];omega)
   ·exact PR.bind_sz (y:=0) (fF k 1 n) fun a m=>(xj k [a] m).of (by simp only[bG];omega)
theorem xj:∀(k:Nat) (l:List Ex) (n:Nat),(gg ts k l n).Sz bG (bG l) n
 |0,_,_=>by unfold gg;exact PR.sz_no
 |k+1,l,n=>by
   unfold gg
   split
   ·exact(PR.bind_sz (x:=0) (y:=bG l) (fF k 1 (n+1)) fun a m=>(xj k (l++[a]) m).of (by rw[xe];simp only[bG];omega)).of a6
   ·exact(PR.bind_sz (x:=0) (y:=bG l) cl fun b q=>PR.sz_ok (sa:=bG) a6).of a6
end
theorem pJ:(iR ts k n).Sz bG 0 n:=
 PR.bind_sz (x:=0) (y:=0) cl fun _ m=>(PR.bind_sz (x:=0) (y:=0) (fF k 1 m) fun e m=>(PR.bind_sz (x:=0) (y:=szE e) cl fun _ _=>PR.sz_ok (by simp only[bG];omega)).of a6).of a6
theorem Bz:(iu ts k n).Sz szS 0 n:=by
 unfold iu
 refine PR.bind_sz (x:=0) (y:=0) kD fun t m=>((PR.bind_sz (x:=1) (y:=0) (sa:=szS) ?_ fun s q=>(PR.bind_sz (x:=0) (y:=szS s) cl fun _ _=>PR.sz_ok (sa:=szS) a6).of (m:=q) a6).of (n:=m) (m:=m) a6)
 split
 ·exact(PR.bind_sz (x:=0) (y:=1) (fF k 1 (m+1)) fun _ _=>PR.sz_ok (by simp only[szS,bB,bG];omega)).of a6
 split
 ·exact(PR.bind_sz (x:=0) (y:=1) (fF k 1 (m+1)) fun i _=>(PR.bind_sz (x:=0) (y:=szE i+1) cl fun _ q=>(PR.bind_sz (x:=0) (y:=szE i+1) (fF k 1 q) fun _ _=>PR.sz_ok (by simp only[szS,bB,bG];omega)).of a6).of a6).of a6
 split
 ·exact(PR.bind_sz (x:=0) (y:=1) (xi k (m+1)) fun _ _=>PR.sz_ok (by simp only[szS,bB];omega)).of a6
 ·exact PR.sz_no
mutual
theorem EB:∀(k n:Nat),(iZ ts k n).Sz szS 0 n
 |0,_=>by unfold iZ;exact PR.sz_no
 |k+1,n=>by
   unfold iZ
   split
   ·exact(PR.bind_sz (x:=0) (y:=1) pJ fun e _=>(PR.bind_sz (x:=0) (y:=bG e+1) cl fun _ _=>PR.sz_ok (by simp only[szS,bB];omega)).of a6).of (n:=n+1) a6
   split
   ·split
    ·exact PR.sz_ok (by simp only[szS,bB,bG];omega)
    ·exact(PR.bind_sz (x:=0) (y:=1) (fF k 1 (n+1)) fun e _=>(PR.bind_sz (x:=0) (y:=szE e+1) cl fun _ _=>PR.sz_ok (by simp only[szS,bB,bG];omega)).of a6).of (n:=n+1) a6
   split
   ·refine(PR.bind_sz (x:=0) (y:=1) pJ fun e m=>(PR.bind_sz (x:=0) (y:=bG e+1) (sB k m) fun th q=>?_).of a6).of (n:=n+1) a6
    split
    ·exact(PR.bind_sz (x:=0) (y:=bB th+bG e+1) (sB k (q+1)) fun _ _=>PR.sz_ok (by simp only[szS];omega)).of a6
    ·exact PR.sz_ok (by simp only[szS,bB];omega)
   split
   ·exact(PR.bind_sz (x:=0) (y:=1) pJ fun e m=>(PR.bind_sz (x:=0) (y:=bG e+1) (sB k m) fun _ _=>PR.sz_ok (by simp only[szS,bB];omega)).of a6).of (n:=n+1) a6
   ·exact Bz
theorem sB:∀(k n:Nat),(gY ts k n).Sz bB 0 n
 |0,_=>by unfold gY;exact PR.sz_no
 |k+1,n=>by
   unfold gY
   exact PR.bind_sz (x:=0) (y:=0) cl fun _ m=>(pK k [] m).of (by simp only[bB];omega)
theorem pK:∀(k:Nat) (l:List Stm) (n:Nat),(cO ts k l n).Sz bB (bB l) n
 |0,_,_=>by unfold cO;exact PR.sz_no
 |k+1,l,n=>by
   unfold cO
   split
   ·exact PR.sz_ok a6
   ·exact(PR.bind_sz (x:=0) (y:=bB l) (EB k n) fun a m=>(pK k _ m).of (by rw[xf];simp only[bB];omega)).of a6
end
theorem xk:∀{k:Nat}{l:List Fn}{n:Nat},(lB ts k l n).In ts.length n
 |0,_,_=>by unfold lB;exact PR.in_no
 |k+1,l,n=>by
   unfold lB
   split
   ·exact PR.bind_in zT fun _ _=>xk
   ·exact PR.in_here
theorem EC:(lC ts k n).In ts.length n:=PR.bind_in sA fun _ _=>PR.bind_in zT fun _ _=>PR.bind_in xk fun _ _=>PR.in_here
theorem pL:(dY ts k n).Sz List.length 0 n:=fun a m h=>by have:=yK h;omega
theorem sC:∀{k:Nat}{l:List Str}{n:Nat},(dj ts k l n).Sz List.length l.length n
 |0,_,_=>by unfold dj;exact PR.sz_no
 |k+1,l,n=>by
   unfold dj
   split
   ·exact(PR.bind_sz (x:=0) (y:=l.length) (sa:=List.length) pL fun m q=>(PR.bind_sz (x:=0) (y:=m.length+l.length) cl fun _ _=>sC.of (by simp only[j4];omega)).of (m:=q) a6).of (n:=n+1) a6
   ·exact PR.sz_ok a6
def szF (f:Fn):Nat:=f.params.length+f.locals.length+bB f.body
theorem zU:(lH ts k n).Sz (fun f=>szF f+1) 0 n:=by
 unfold lH
 refine PR.bind_sz (x:=0) (y:=0) cl fun _ m=>(PR.bind_sz (x:=0) (y:=0) kD fun t m=>(PR.bind_sz (x:=0) (y:=1) cl fun _ m=>(PR.bind_sz (x:=0) (y:=1) (sa:=List.length) ?_ fun ps m=>(PR.bind_sz (x:=0) (y:=ps.length+1) cl fun _ m=>?_).of (n:=m) (m:=m) a6).of (n:=m) (m:=m) a6).of (m:=m) a6).of (m:=m) a6
 ·split
  ·exact pL
  ·exact PR.sz_ok (m:=m) a7
 ·have hb:∀v,((bA ts [[123]] v).bind fun _ m'=>(dj ts k [] m').bind fun ls m'=>(cO ts k [] m').bind fun b m'=>(PR.ok (Fn.mk t.text ps ls (decide (aD ts m=[119,111,114,100])) b) m')).Sz (fun f=>szF f+1) (ps.length+1) v:=fun v=>
   (PR.bind_sz (x:=0) (y:=ps.length+1) cl fun _ m'=>(PR.bind_sz (x:=0) (y:=ps.length+1) (sC (l:=[])) fun ls m'=>(PR.bind_sz (x:=0) (y:=ls.length+ps.length+1) (pK k [] m') fun b m'=>PR.sz_ok (by simp only[szF];omega)).of (m:=m') a6).of (m:=m') a6).of a6
  split
  ·exact(hb (m+1)).of a6
  ·exact(hb m).of a6
theorem sD:∀{k:Nat}{l:List Str}{ars:List (Str×Int)}{n:Nat},(lA ts k l ars n).Sz (fun h=>h.1.length+h.2.length) (l.length+ars.length) n
 |0,_,_,_=>by unfold lA;exact PR.sz_no
 |k+1,l,ars,n=>by
   unfold lA
   split
   ·exact(PR.bind_sz (x:=0) (y:=l.length+ars.length) (sa:=List.length) pL fun m q=>(PR.bind_sz (x:=0) (y:=m.length+l.length+ars.length) cl fun _ _=>sD.of (by simp only[j4];omega)).of (m:=q) a6).of (n:=n+1) a6
   split
   ·exact(PR.bind_sz (x:=0) (y:=l.length+ars.length) kD fun t m=>(PR.bind_sz (x:=0) (y:=l.length+ars.length+1) cl fun _ m=>(PR.bind_sz (x:=0) (y:=l.length+ars.length+1) kD fun z m=>(PR.bind_sz (x:=0) (y:=l.length+ars.length+2) cl fun _ m=>(PR.bind_sz (x:=0) (y:=l.length+ars.length+2) cl fun _ m=>
     sD.of (m:=m) (by simp only[j4,L6];omega)).of (m:=m) a6).of (m:=m) a6).of (m:=m) a6).of (m:=m) a6).of (n:=n+1) a6
   ·exact PR.sz_ok (by simp only;omega)
def xl (l:List Fn):Nat:=l.length+(l.map szF).sum
theorem ED (l:List Fn) (f:Fn):xl (l++[f])=xl l+szF f+1:=by simp[xl];omega
theorem xm:∀{k:Nat}{l:List Fn}{n:Nat},(lB ts k l n).Sz xl (xl l) n
 |0,_,_=>by unfold lB;exact PR.sz_no
 |k+1,l,n=>by
   unfold lB
   split
   ·exact(PR.bind_sz (x:=0) (y:=xl l) zU fun f m=>xm.of (m:=m) (by rw[ED];omega)).of (m:=n) a6
   ·exact PR.sz_ok a6
def szP (p:Prog):Nat:=p.vars.length+p.arrays.length+xl p.funcs
theorem EE:(lC ts k n).Sz szP 0 n:=
 (PR.bind_sz (x:=0) (y:=0) sD fun h m=>(PR.bind_sz (x:=0) (y:=h.1.length+h.2.length) zU fun f m=>(PR.bind_sz (x:=szF f+1) (y:=h.1.length+h.2.length) (xm.of (m:=m) (by simp[xl];omega)) fun fs m=>PR.sz_ok (by simp only[szP];omega)).of (m:=m) a6).of (m:=m) a6).of (m:=n) a7
end
theorem yL{kd v:Nat}{t:Str} (h:firstT s=.ok (kd,t,v)):v≤4294967295:=by
 unfold firstT at h
 split at h
 ·cases h
 ·split at h
  ·split at h
   ·cases h
   ·cases h;omega
  split at h
  ·split at h
   ·split at h
    ·rename_i hx;cases h;omega
    ·cases h
   ·cases h
  split at h
  ·split at h
   ·cases h
   split at h <;> (cases h;omega)
  ·split at h
   ·cases h;omega
   ·cases h
theorem mQ:∀{n k:Nat}{s:Str}{l:List Tok}{p:Nat},qi n k s=(.ok l,p)→l.length≤n∧∀t∈l,t.num≤4294967295
 |0,_,_,_,_,h=>by unfold qi at h;cases h;simp
 |_+1,_,[],_,_,h=>by unfold qi at h;cases h;simp
 |n+1,k,c::r,l,p,h=>by
   unfold qi at h
   split at h
   ·have:=mQ h;exact⟨a6,this.2⟩
   split at h
   ·have:=mQ h;exact⟨a6,this.2⟩
   split at h
   ·cases h
   ·rename_i kd t v hf
    split at h
    ·rename_i l' p' hl
     cases h
     have:=mQ hl
     refine⟨by simp;omega,fun x hx=>?_⟩
     rcases x9.1 hx with rfl|hx
     ·exact yL hf
     ·exact this.2 x hx
    ·cases h
theorem EF:(pC s).1.length≤20001∧∀t∈(pC s).1,t.num≤4294967295:=by
 unfold pC
 split
 ·simp
 ·split
  ·rename_i h
   have:=mQ h
   exact⟨by simp only;omega,this.2⟩
  ·simp
def kw (ts:List Tok) (fin n:Nat):Nat:=match ts[n]? with|some t=>t.place|none=>fin
def RQ (s:Str):R Prog×Nat:=
 if (pC s).2.2≠0 then(.err (pC s).2.2,(pC s).2.1)
 else match lC (pC s).1 (4*(pC s).1.length+7) 0 with
  |.ok p m=>if m<(pC s).1.length then(.err 3,kw (pC s).1 s.length m) else(.ok p,0)
  |.no m=>(.err 3,kw (pC s).1 s.length m)
theorem IN{k m:Nat}{p:Prog} (h:lC (pC s).1 k 0=.ok p m):szP p≤20001:=by
 have h1:=EE p m h
 have h2:m≤max 0 (pC s).1.length:=EC p m h
 have h3:=EF (s:=s)
 omega
end
end
end Go.Src

/- A part of the proof; no conditions. -/
import Derived.Test.YtlacbjnmkhndiaaGreatDoorPart12
set_option linter.unusedSimpArgs false
set_option linter.unusedVariables false
set_option linter.defProp false
open List renaming length -> z
open Option renaming some -> S, none -> N
open Bool renaming true -> T, false -> F
set_option maxHeartbeats 64000000
set_option maxRecDepth 100000
namespace Go.Am
section
attribute [local congr] Go.Am.ite_cc
section
section
variable{P:Program}{rd:Option Nat}{O:Bs}{l:St->Loc->List Deferred->World->Prop}{B0:Nat}{Ψ:ff}{B:(Exit->St->Prop)->St->Prop}{b:Box B}{Q:Exit->St->Prop}{q:Box Q}{s:St}
def qX(h:∀Z:St->Prop,B (iQ (bx Z) q) s):ng (spF P rd O l B0 Ψ) b q s:=⟨λ_ K=>K=s,⟨0,s,ae.refl s,rfl⟩,λ_ K e=>by subst e;exact h _⟩
def IQ(h:∀Z:St->Prop,(∀W,(∀c:St->Prop,B (iQ (bx c) q) W)->Z W)->B (iQ (bx Z) q) s):ng (spF P rd O l B0 Ψ) b q s:=
 ⟨λn K=>(n=1/\K=s)\/n=0/\∀c:St->Prop,B (iQ (bx c) q) K,⟨1,s,ae.refl s,.inl ⟨rfl,rfl⟩⟩,λn K e=>by
  rcases e with⟨rfl,rfl⟩|⟨rfl,e⟩
  .exact h _ λW a=>⟨0,W,b9,ae.refl W,.inr ⟨rfl,a⟩⟩
  .exact e _⟩
end
end
end
end Go.Am
namespace Go.Proofs.YtlacbjnmkhndiaaGreatDoor
section
attribute [local congr] Go.Am.ite_cc
open Go Go.Am Go.Asm
open Go.Src (PR fc eV takeN eE Ex Stm)
section
def bT:List Src.Tok:=[⟨3,[102,117,110,99],0,0⟩,⟨1,[109,97,105,110],0,5⟩,⟨4,[40],0,9⟩,⟨4,[41],0,10⟩,⟨4,[123],0,12⟩,⟨3,[112,117,116],0,14⟩,⟨4,[40],0,17⟩,⟨2,[54,53],65,18⟩,⟨4,[41],0,20⟩]
def tT(b:Bool):List Src.Tok:=bT++if b then [⟨4,[59],0,21⟩,⟨4,[125],0,23⟩]else [⟨4,[125],0,22⟩]
def e65:Ex:=.mk 1 0 65 [] []
section
variable{O:Bs}{rd:Option Nat}{l:St->Am.Loc->List Deferred->World->Prop}{B0:Nat}{Ψ:ff}{o:Oper}{s:St}{K:St->Prop}{k:Box K}{args:Array Operand}{tys:Array TypeId}
def jy{A:Type}(ts:List Src.Tok)(n fin:Nat)(w:Str)(a:eV ts n=w)(a6:aY O l)(ho:o.op=.call ⟨.value (.func 86),args,tys⟩)(j:Nat)(I:args.toList.map s.ev=[.one (.ptr 125 (s.gen 125) 0),.one (.osl j (s.gen j) 1 0 1)])(b:Nat)(hB:200<=b)(bk:∀i,b<=i->s.obj i=N)(bl:s.obj 125=S (rdC ts n fin))(u:n<=900000)(p:j<b)(y:j≠125)(c:s.obj j=S (jH [w]))
 {B:Nat}{g:Nat->Nat}{ob:Obs}{d:PR A}(r:InF B g ob s.gen s.obj)(t:K (St.put ⟨s.f,s.gen,upd s.obj 125 (S (rdC ts (n+1) fin))⟩ o.dst uv)):bm (spF Tryz.prog rd O l B0 (Fp B [125] g ob (NoR ts fin d g ob))) o s k:=by
 have e:eE ts [w] n=.ok () (n+1):=by unfold eE;rw[l8 a];rfl
 refine wm ts n fin a6 ho [w] j I b hB bk bl VC p y c r (λm h=>by rw[e]at h;cases h) (λm h=>?_);rw[e]at h;cases h;exact t
end
def PO:ax Tryz.prog 211 [sv [41]] (·=.tup [.agg [.d (.int .i64 0),.d (.int .i64 0),.d (.int .u32 0),.d (.str []),.d (.sl [])],iv .i64 0]):=by
 refine hdR Tryz.func211 rfl [.cell 2 42,.tmp 3] λg=>?_;obtain⟨s,a⟩:∃s:Str,s=[41]:=⟨_,rfl⟩
 rw[<-a];have h:∀t:Str,t≠[41]->¬s=t:=λt i e=>i (e.symm.trans a);simp only[go_sem,h [124,124] b9,h [38,38] b9,h [61,61] b9,h [60] b9,h [124] b9,h [94] b9,h [38] b9,h [60,60] b9,h [62,62] b9,h [43] b9,h [45] b9,h [42] b9,h [47] b9,h [37] b9];exact⟨_,GV rfl,rfl⟩
variable{b:Bool}{fin:Nat}
def PP:mn 210 [] (tT b) 7 fin (.ok e65 8) exV:=by
 intro B g ob hB hf ho;refine hdM B [125] Tryz.func210 rfl [.cell 2 42] VC hf λO bn s0 w0=>?_;have n1:=nlo hB;have n2:=nhi hB;have d:InF B g ob g ob:=InF.refl;have az:=hf;have l:fc (tT b) 7=2:=rfl;have e:takeN (tT b) 2 7=.ok ⟨2,[54,53],65,18⟩ 8:=rfl;simp only[go_sem,n1,n2];refine wj (tT b) 7 fin aa rfl Vz VO ?_;rw[l];simp only[go_sem];refine fQ aa rfl (GQ (tT b) 7 fin 2 a7 b9) VE (B+57) a7 (fi az) VO (InF.go d) (λm h=>by rw[e]at h;cases h) ?_;intro t m j;rw[e]at j;cases j;unfold vz rV;simp only[go_sem,n1,n2];refine⟨_,ae.refl _,?_⟩;simp only[go_sem,n1,n2];exact InF.ret (n:=8) (a:=e65) (InF.go d) Vz rfl (Tf .nil) (by simp[pack,exV,exD,zf,e65])
def PQ:mn 202 [iv .i64 1] (tT b) 7 fin (.ok e65 8) exV:=by
 intro B g ob hB hf ho;refine hdM B [125] Tryz.func202 rfl [.cell 4 42] VC hf λO bn s0 w0=>?_;have n1:=nlo hB;have n2:=nhi hB;have j:InF B g ob g ob:=InF.refl;have az:=hf;have l:eV (tT b) 8=[41]:=rfl;simp only[go_sem,n1,n2];refine fQ aa rfl PP VE (B+35) a7 (fi az) VO (InF.go j) (λm h=>h) ?_;intro e m t;cases t;simp only[go_sem,n1,n2,exV,exD,e65];refine qX λZ=>?_;simp only[go_sem,n1,n2];refine Eh (tT b) 8 fin aa rfl Vz (B+35) a7 (fi az) Vz ?_;rw[l];simp only[go_sem];refine DH rfl (by simp only[go_sem];exact PO) ?_;rintro _ rfl;simp only[go_sem,n1,n2];refine⟨_,ae.refl _,?_⟩;simp only[go_sem,n1,n2];exact InF.ret (n:=8) (a:=e65) (InF.go j) Vz rfl (Tf (.d _)) (by simp[pack,exV,exD,e65])
def Mb:mn 201 [] (tT b) 6 fin (.ok [e65] 9) eb:=by
 intro B g ob hB hf ho;refine hdM B [125] Tryz.func201 rfl [.tmp 2] VC hf λO bn s0 w0=>?_;have n1:=nlo hB;have n2:=nhi hB;have d:InF B g ob g ob:=InF.refl;have az:=hf;simp only[go_sem,n1,n2];refine jy (tT b) 6 fin [40] rfl aa rfl (B+5) VE (B+14) a7 (fi az) VO b9 a7 a7 V5 (InF.go d) ?_;simp only[go_sem,n1,n2];refine fQ aa rfl PQ VE (B+14) a7 (fi az) Vz (InF.go d) (λm h=>by cases h) ?_;intro e l j;cases j;simp only[go_sem,n1,n2,exV,exD,e65];refine jy (tT b) 8 fin [41] rfl aa rfl (B+10) VE (B+14) a7 (fi az) Vz b9 a7 a7 V5 (InF.go d) ?_;simp only[go_sem,n1,n2];refine⟨_,ae.refl _,?_⟩;simp only[go_sem,n1,n2];exact InF.ret (n:=9) (a:=[e65]) (InF.go d) Vz rfl (KC a7 Vz (by simp only[go_sem,n1,n2];simp[exC,exD,e65]) rfl) rfl
end
section
def oT{A:Type}(b:Bool)(x:A)(n:Nat):PR A:=if b then .ok x n else .no 9
def s65:Stm:=.mk 3 [] [e65] [] []
def f65:Src.Fn:=⟨[109,97,105,110],[],[],F,[s65]⟩
def p65:Src.Prog:=⟨[],[],[f65]⟩
def IR(b:Bool):eE (tT b) [[59]] 9=oT b () 10:=by cases b<;>rfl
def Di{A β:Type}{b:Bool}{x:A}{y:β}{n k m:Nat}(h:oT b x n=.no m):oT b y k=.no m:=by
 cases b
 .have h:(PR.no 9:PR A)=.no m:=h
  cases h;rfl
 .cases h
def Ag{A:Type}{b:Bool}{x y:A}{n m:Nat}(h:oT b x n=.ok y m):b=T/\x=y/\n=m:=by
 cases b
 .cases h
 .cases h;exact⟨rfl,rfl,rfl⟩
variable{b:Bool}{fin:Nat}
def PS:mn 188 [] (tT b) 5 fin (oT b s65 10) smV:=by
 intro B g ob hB hf ho;refine hdM B [125] Tryz.func188 rfl [.cell 2 45] VC hf λO bn s0 w0=>?_;have n1:=nlo hB;have n2:=nhi hB;have e:InF B g ob g ob:=InF.refl;have az:=hf;simp only[go_sem,n1,n2];refine kI (tT b) 5 fin [112,117,116] aa rfl Vz (B+55) a7 (fi az) VO a7 (λ_=>?_) (λh=>absurd rfl h);simp only[go_sem,n1,n2];refine fQ aa rfl Mb VE (B+55) a7 (fi az) Vz (InF.go e) (λm h=>by cases h) ?_;intro l m k;cases k;simp only[go_sem,n1,n2,eb];refine wm (tT b) 9 fin aa rfl [[59]] (B+13) VE (B+55) a7 (fi az) Vz a8 a7 a7 V5 (InF.go e) (λm h=>by rw[IR]at h;exact Di h) ?_;intro o j;rw[IR]at j;obtain⟨rfl,_,rfl⟩:=Ag j;simp only[go_sem,n1,n2];refine⟨_,ae.refl _,?_⟩;simp only[go_sem,n1,n2];exact InF.ret (n:=10) (a:=s65) (InF.go e) Vz rfl (Tg (.d _) .nil .nil) (by simp[pack,smV,smD,Bf,aK,s65])
def Mc:mn 148 [] (tT b) 5 fin (oT b [s65] 11) eS:=by
 intro B g ob hB hf ho;refine hdM B [125] Tryz.func148 rfl [.tmp 2] VC hf λO bn s0 w0=>?_;have n1:=nlo hB;have n2:=nhi hB;have d:InF B g ob g ob:=InF.refl;have az:=hf;simp only[go_sem,n1,n2];refine IQ λZ j=>?_;simp only[go_sem,n1,n2];refine kI (tT b) 5 fin [125] aa rfl Vz (B+13) a7 (fi az) VO a7 (λh=>absurd (show ([112,117,116]:Str)=[125]from h) b9) (λ_=>?_);simp only[go_sem,n1,n2];refine fQ aa rfl PS VE (B+13) a7 (fi az) VO (InF.go d) (λm h=>Di h) ?_;intro e m k;obtain⟨rfl,rfl,rfl⟩:=Ag k;simp only[go_sem,n1,n2,smV,kX,j6,aW];refine⟨⟨b9,b9⟩,?_⟩;refine j _ λc=>?_;simp only[go_sem,n1,n2];refine kI (tT T) 10 fin [125] aa rfl Vz (B+13) a7 (fi az) Vz a7 (λ_=>?_) (λh=>absurd rfl h);simp only[go_sem,n1,n2];refine⟨_,ae.refl _,?_⟩;simp only[go_sem,n1,n2];exact InF.ret (n:=11) (a:=[s65]) (InF.go d) Vz rfl (KD a7 Vz (by simp only[go_sem,n1,n2];simp[smC,kX,s6]) rfl) rfl
end
section
variable{b:Bool}{fin:Nat}
def Ub:mn 87 [] (tT b) 0 fin (oT b f65 11) fnV:=by
 intro B g ob hB hf ho;refine hdM B [125] Tryz.func87 rfl [.cell 2 47] VC hf λO bn s0 w0=>?_;have n1:=nlo hB;have n2:=nhi hB;have k:InF B g ob g ob:=InF.refl;have az:=hf;have l:takeN (tT b) 1 1=.ok ⟨1,[109,97,105,110],0,5⟩ 2:=rfl;have r:fc (tT b) 3=4:=rfl;simp only[go_sem,n1,n2];refine jy (tT b) 0 fin [102,117,110,99] rfl aa rfl (B+5) VE (B+44) a7 (fi az) VO b9 a7 a7 V5 (InF.go k) ?_;simp only[go_sem,n1,n2];refine fQ aa rfl (GQ (tT b) 1 fin 1 a7 b9) VE (B+44) a7 (fi az) Vz (InF.go k) (λm h=>by rw[l]at h;cases h) ?_;intro t u o;rw[l]at o;cases o;unfold vz rV;simp only[go_sem,n1,n2];refine jy (tT b) 2 fin [40] rfl aa rfl (B+12) VE (B+44) a7 (fi az) Vz b9 a7 a7 V5 (InF.go k) ?_;simp only[go_sem,n1,n2];refine wj (tT b) 3 fin aa rfl Vz Vz ?_;rw[r];simp only[go_sem,n1,n2];refine jy (tT b) 3 fin [41] rfl aa rfl (B+21) VE (B+44) a7 (fi az) Vz b9 a7 a7 V5 (InF.go k) ?_;simp only[go_sem,n1,n2];refine kI (tT b) 4 fin [119,111,114,100] aa rfl Vz (B+44) a7 (fi az) Vz a7 (λh=>absurd (show ([123]:Str)=[119,111,114,100]from h) b9) (λ_=>?_);simp only[go_sem,n1,n2];refine jy (tT b) 4 fin [123] rfl aa rfl (B+27) VE (B+44) a7 (fi az) Vz b9 a7 a7 V5 (InF.go k) ?_;simp only[go_sem,n1,n2];refine qX λZ=>?_;simp only[go_sem,n1,n2];refine kI (tT b) 5 fin [118,97,114] aa rfl Vz (B+44) a7 (fi az) Vz a7 (λh=>absurd (show ([112,117,116]:Str)=[118,97,114]from h) b9) (λ_=>?_);simp only[go_sem,n1,n2];refine fQ aa rfl Mc VE (B+44) a7 (fi az) Vz (InF.go k) (λm h=>Di h) ?_;intro c v j;obtain⟨rfl,rfl,rfl⟩:=Ag j;simp only[go_sem,n1,n2,eS];refine⟨_,ae.refl _,?_⟩;simp only[go_sem,n1,n2];refine InF.ret (n:=11) (a:=f65) (rs:=[fnV f65]) (InF.go k) Vz rfl ?_ rfl
 exact⟨_,_,rfl,.agg (xs:=fnD f65) rfl (λi e j=>by
  match i,j with
  |0,j=>cases j;exact⟨_,rfl,.d _⟩
  |1,j=>cases j;exact⟨_,rfl,.nil⟩
  |2,j=>cases j;exact⟨_,rfl,.nil⟩
  |3,j=>cases j;exact⟨_,rfl,.d _⟩
  | 4,j=>cases j;exact⟨_,rfl,.d _⟩),rfl⟩
def Uc:z (tT b)=if b then 11 else 10:=by cases b<;>rfl
def PT:mn 54 [] (tT b) 0 fin (oT b p65 11) bS:=by
 intro B g ob hB hf ho;refine hdM B [125] Tryz.func54 rfl [.cell 2 26] VC hf λO bn s0 w0=>?_;have n1:=nlo hB;have n2:=nhi hB;have t:InF B g ob g ob:=InF.refl;have az:=hf;simp only[go_sem,n1,n2];refine qX λZ=>?_;simp only[go_sem,n1,n2];refine kI (tT b) 0 fin [118,97,114] aa rfl Vz (B+65) a7 (fi az) VO a7 (λh=>absurd (show ([102,117,110,99]:Str)=[118,97,114]from h) b9) (λ_=>?_);simp only[go_sem,n1,n2];refine kI (tT b) 0 fin [97,114,114,97,121] aa rfl Vz (B+65) a7 (fi az) VO a7 (λh=>absurd (show ([102,117,110,99]:Str)=[97,114,114,97,121]from h) b9) (λ_=>?_);simp only[go_sem,n1,n2];refine DD (b=T) aA mixed aa [B+44,B+45,125] [([3],[0,2],[],F),([40],[0,2],[],F),([0],[],[],F),([42],[],[2],F),([43],[],[0],F),([41,44],[],[1],F),([3],[0,1,2],[],F),([46,45],[],[],T)] 3 rfl c8 rfl VC ?_;simp only[go_sem]
 (apply oz;(case hf=>rfl);(case hg=>first|exact x9|exact⟨_,rfl,by decide,rfl⟩);(case U=>intro o ga r d J;simp only[go_sem,n1,n2]at J|-;exact J))
 (apply oz;(case hf=>rfl);(case hg=>first|exact x9|exact⟨_,rfl,by decide,rfl⟩);(case U=>intro o ga r d J;simp only[go_sem,n1,n2]at J|-;exact J))
 (apply oz;(case hf=>rfl);(case hg=>first|exact x9|exact⟨_,rfl,by decide,rfl⟩);(case U=>intro o ga r d J;simp only[go_sem]at J|-;exact J))
 refine DE (v:=fnV f65) (y:=S (rdC (tT b) 11 fin)) x9 a8 (λo ga r d J=>?_) ?_
 .simp only[go_sem,n1,n2]at J|-
  refine fQ (k:=bx d) aa rfl Ub VE (B+65) a7 (fi az) VO (InF.go t) (λm h=>Di h) ?_;intro A E x;obtain⟨hb,rfl,rfl⟩:=Ag x;simp only[go_sem,n1,n2];exact J hb
 (apply yp;(case hf=>rfl);(case hg=>first|exact x9|exact⟨_,rfl,by decide,rfl⟩);(case U=>intro o ga r d J;simp only[go_sem,fnV,fnD]at J|-;exact J))
 (apply yp;(case hf=>rfl);(case hg=>exact x9);(case U=>intro o ga r d J;simp only[go_sem,n1,n2,aW,j6,fnD]at J|-;exact⟨⟨b9,b9⟩,J⟩))
 (apply oz;(case hf=>rfl);(case hg=>first|exact x9|exact⟨_,rfl,by decide,rfl⟩);(case U=>intro o ga r d J;simp only[go_sem,n1,n2]at J|-;exact J))
 refine DF rfl x9 ?_;intro d u;simp only[go_sem,n1,n2];refine u _ ?_;clear u d;rintro rfl;simp only[go_sem,n1,n2];refine qX λZ=>?_;simp only[go_sem];refine aF c8 ?_;simp only[go_sem,n1,n2,rdC,jW,j6,Uc];refine⟨_,ae.refl _,?_⟩;simp only[go_sem,n1,n2];refine InF.ret (n:=11) (a:=p65) (rs:=[bS p65]) (InF.go t) (by simp only[go_sem,n1,n2,rdC,jW]) rfl ?_ rfl
 exact⟨_,_,rfl,.agg (xs:=iH p65) rfl (λi e j=>by
  match i,j with
  |0,j=>cases j;exact⟨_,rfl,.nil⟩
  |1,j=>cases j;exact⟨_,rfl,.nil⟩
  | 2,j=>cases j;exact⟨_,rfl,Tb (l:=[f65]) a7 Vz (by simp only[go_sem,n1,n2];simp[fnC,fnD]) rfl⟩),rfl⟩
end
end
end Go.Proofs.YtlacbjnmkhndiaaGreatDoor
namespace Go.Src
section
open Go.Asm (Str letter ew)
def aT(s:Str):Bool:=decide (s≠[]/\z s<=20/\s.head?.any letter=T/\s.takeWhile ew=s/\s∉iC)
def am(a:Bool)(s:Str):Bool:=if a then aT s else decide (s=[])
def bD(kind op num:Int)(name:Str)(n:Nat):Bool:=
 if kind=1 then decide (op=0) && am F name && decide (n=0)
 else if kind=2 then decide (op=0/\num=0) && am T name && decide (n=0)
 else if kind=3 then decide (op=0/\num=0) && am T name && decide (n=1)
 else if kind=4 then decide (op=0/\num=0) && am T name && decide (n<=6)
 else if kind=5 then decide (op=0/\num=0) && am F name && decide (n=0)
 else if kind=6 then decide ((4<=op/\op<=15)/\num=0) && am F name && decide (n=2)
 else if kind=7 then decide (op=0/\num=0) && am F name && decide (n=1)
 else if kind=8\/kind=9 then decide (op=0/\num=0) && am F name && decide (n=2)
 else F
mutual
def eW(q:Nat):Ex->Bool
 |.mk kind op num name kids=>decide (q<=24)&&(bD kind op num name (z kids)&&bg (q+1) kids)
def bg(q:Nat):List Ex->Bool
 |[]=>T
 |e::l=>eW q e&&bg q l
end
def cp(kind:Int)(name:Str)(n nt ne:Nat):Bool:=
 if kind=1 then am T name && decide (n=1/\nt=0/\ne=0)
 else if kind=2 then am T name && decide (n=2/\nt=0/\ne=0)
 else if kind=3 then am F name && decide (n=1/\nt=0/\ne=0)
 else if kind=4 then am F name && decide (n=1)
 else if kind=5 then am F name && decide (n=1/\ne=0)
 else if kind=6 then am T name && decide (n<=6/\nt=0/\ne=0)
 else if kind=7 then am F name && decide (n<=1/\nt=0/\ne=0)
 else F
mutual
def eL(q:Nat):Stm->Bool
 |.mk kind name e a el=>decide (q<=24)&&(cp kind name (z e) (z a) (z el)&&bg (q+1) e)&&(ba (q+1) a&&ba (q+1) el)
def ba(q:Nat):List Stm->Bool
 |[]=>T
 |s::l=>eL q s&&ba q l
end
def fp(f:Fn):Bool:=aT f.name&&decide (z f.params<=6)&&(f.params.all aT&&f.locals.all aT&&ba 1 f.body)
def ij(a:Str×Int):Bool:=aT a.1&&decide (1<=a.2)&&decide (a.2<=4096)
def dX(p:Prog):Bool:=decide (1<=z p.funcs/\z p.funcs<=64)&&p.vars.all aT&&(p.arrays.all ij&&p.funcs.all fp)
mutual
def szE:Ex->Nat
 |.mk _ _ _ _ kids=>bc kids+1
def bc:List Ex->Nat
 |[]=>0
 |e::l=>szE e+bc l
end
mutual
def szS:Stm->Nat
 |.mk _ _ e a el=>bc e+aD a+aD el+1
def aD:List Stm->Nat
 |[]=>0
 |s::l=>szS s+aD l
end
def LU:∀{l:List Ex}{e:Ex},e∈l->szE e<=bc l
 |x::l,e,h=>by
   rw[bc];rcases A3.1 h with rfl|h
   .omega
   .have:=LU h;omega
def LV:∀{l:List Stm}{e:Stm},e∈l->szS e<=aD l
 |x::l,e,h=>by
   rw[aD];rcases A3.1 h with rfl|h
   .omega
   .have:=LV h;omega
def IF:∀l:List Ex,z l<=bc l
 |[]=>l7 _
 |e::l=>by have:=IF l;cases e;simp only[bc,szE,j9];omega
def IG:∀l:List Stm,z l<=aD l
 |[]=>l7 _
 |e::l=>by have:=IG l;cases e;simp only[aD,szS,j9];omega
def zY{q:Nat}:∀l:List Ex,bg q l=l.all (eW q)
 |[]=>by simp[bg]
 |e::l=>by simp[bg,zY l]
def zZ{q:Nat}:∀l:List Stm,ba q l=l.all (eL q)
 |[]=>by simp[ba]
 |e::l=>by simp[ba,zZ l]
def TR{A:Type}{p:A->Bool}{l:List A}{k:Nat}{x:A}(h:(l.take k).all p=T)(I:l[k]?=S x)(a:p x=T):(l.take (k+1)).all p=T:=by
 rw[D0,I,H5,h];simp[a]
def all_false{A:Type}{p:A->Bool}{l:List A}{k:Nat}{x:A}(I:l[k]?=S x)(a:p x=F):l.all p=F:=by
 rw[List.all_eq_false];exact⟨x,l6 I,by simp[a]⟩
end
end Go.Src
namespace Go.Am
section
section
section
variable{P:Program}{E:Nat->TI}{O:Bs}{rd:Option Nat}{q:Nat}{o:cF}{b:ff}{a:Nat}
end
end
end
end Go.Am
namespace Go.Proofs.YtlacbjnmkhndiaaGreatDoor
section
attribute [local congr] Go.Am.ite_cc
open Go Go.Am Go.Asm
open Go.Src (aT)
section
variable{o:cF}
def Ow(ho:jS o)(s:Str):bP Tryz.prog 1 o 149 [sv s] (·=bv (aT s)):=by
 refine hdG Tryz.func149 rfl [.tmp 2] λO bn s0 w0 g=>?_;obtain⟨X,a⟩:∃X,aT s=X:=⟨_,rfl⟩
 rw[a];unfold aT at a;by_cases A:s=[]
 .obtain rfl:X=F:=by rw[<-a];exact A4 λh=>h.1 A
  simp only[go_sem,w8 A]
 by_cases e:z s<=20
 case neg=>
  obtain rfl:X=F:=by rw[<-a];exact A4 λh=>e h.2.1
  have l:¬(z s:Int)<=20:=a7;simp only[go_sem,A,l]
 have l:(z s:Int)<=20:=a7
 obtain⟨c,Z⟩:∃c,s[0]?=S c:=by
  cases s with
  |nil=>exact absurd rfl A
  |cons c r=>exact⟨c,rfl⟩
 have b:s.head?=S c:=by rw[<-Z,Si]
 simp only[go_sem,A,l,Z];refine ip rfl (by simp only[go_sem];exact oY c) ?_;rintro _ rfl;cases H:letter c
 .obtain rfl:X=F:=by rw[<-a];exact A4 λh=>by have:=h.2.2.1;rw[b]at this;simp[H]at this
  exact hx
 simp only[go_sem];refine ip rfl (by simp only[go_sem];exact tg (λc=>wz c) s a7) ?_;rintro _ rfl;by_cases ar:s.takeWhile ew=s
 case neg=>
  obtain rfl:X=F:=by rw[<-a];exact A4 λh=>ar h.2.2.2.1
  simp only[go_sem,ar]
 simp only[go_sem,ar];refine cG rfl (by simp only[go_sem];exact zL ho s) ?_;rintro _ rfl;by_cases d:s∈Src.iC
 .obtain rfl:X=F:=by rw[<-a];exact A4 λh=>h.2.2.2.2 d
  simp only[go_sem,d]
 .obtain rfl:X=T:=by rw[<-a];exact C9 ⟨A,e,by rw[b];simp[H],ar,d⟩
  simp only[go_sem,d]
def mq(ho:jS o)(s:Str):bP Tryz.prog 1 o 89 [sv s] (·=bv (aT s)):=by
 refine hdG Tryz.func89 rfl [.tmp 2] λO bn s0 w0 g=>?_;have u:s∈Src.iC->aT s=F:=λh=>A4 λq=>q.2.2.2.2 h;obtain⟨X,t⟩:∃X,aT s=X:=⟨_,rfl⟩
 rw[t];rw[t]at u;by_cases a:s=[118,97,114]
 .obtain rfl:=u (by rw[a];decide)
  simp only[go_sem,w8 a]
 by_cases U:s=[97,114,114,97,121]
 .obtain rfl:=u (by rw[U];decide)
  simp only[go_sem,a,w8 U]
 by_cases b:s=[102,117,110,99]
 .obtain rfl:=u (by rw[b];decide)
  simp only[go_sem,a,U,w8 b]
 by_cases d:s=[119,111,114,100]
 .obtain rfl:=u (by rw[d];decide)
  simp only[go_sem,a,U,b,w8 d]
 by_cases e:s=[105,102]
 .obtain rfl:=u (by rw[e];decide)
  simp only[go_sem,a,U,b,d,w8 e]
 by_cases i:s=[101,108,115,101]
 .obtain rfl:=u (by rw[i];decide)
  simp only[go_sem,a,U,b,d,e,w8 i]
 by_cases j:s=[119,104,105,108,101]
 .obtain rfl:=u (by rw[j];decide)
  simp only[go_sem,a,U,b,d,e,i,w8 j]
 by_cases l:s=[114,101,116,117,114,110]
 .obtain rfl:=u (by rw[l];decide)
  simp only[go_sem,a,U,b,d,e,i,j,w8 l]
 by_cases n:s=[112,117,116]
 .obtain rfl:=u (by rw[n];decide)
  simp only[go_sem,a,U,b,d,e,i,j,l,w8 n]
 by_cases v:s=[103,101,116]
 .obtain rfl:=u (by rw[v];decide)
  simp only[go_sem,a,U,b,d,e,i,j,l,n,w8 v]
 simp only[go_sem,a,U,b,d,e,i,j,l,n,v];refine cG rfl (by simp only[go_sem];exact Ow ho s) ?_;rintro _ rfl;rw[t];exact hx
def cB(ho:jS o)(s:Str)(b:Bool):bP Tryz.prog 1 o 190 [sv s,bv b] (·=bv (Src.am b s)):=by
 refine hdG Tryz.func190 rfl [.tmp 4] λO bn s0 w0 g=>?_;unfold Src.am;cases b
 .exact hx
 .simp only[go_sem]
  refine cG rfl (by simp only[go_sem];exact mq ho s) ?_;rintro _ rfl;exact hx
def pK(ho:jS o)(l:List Str)(hl:z l<=1000000000):bP Tryz.prog 1 o 88 [uz l] (·=bv (l.all aT)):=by
 refine hdG Tryz.func88 rfl [.tmp 2] λO bn s0 w0 g=>?_;unfold uz;simp only[go_sem,j6];refine aw (λX K=>∃k:Nat,X+k=z l/\(l.take k).all aT=T/\K.f 5=.one (.d (.sl (l.map λs=>[.str s])))/\K.f 6=iv .i64 (z l)/\K.f 7=iv .i64 k) (z l) ?_ ?_
 .exact UE
 rintro X f u v ⟨k,hk,bs,e,a,b⟩;simp only at e a b;have j:=ac (k:=k) a7;by_cases n:k<z l
 case neg=>
  have Q:¬(k:Int)<(z l:Int):=a7;obtain rfl:k=z l:=a7;rw[s6 (l7 _)]at bs;simp only[go_sem,a,b,Q,bs]
 have Q:(k:Int)<(z l:Int):=a7;have t:(0:Int)<=(k:Int):=a7;obtain⟨s,i⟩:=getq n;simp only[go_sem,e,a,b,Q,t,i];refine cG rfl (by simp only[go_sem];exact mq ho s) ?_;rintro _ rfl;cases hb:aT s
 .simp only[go_sem,Src.all_false i hb]
 .simp only[go_sem,b,j]
  refine ah (X-1) a7 ⟨k+1,a7,Src.TR bs i hb,?_⟩;simp only[go_sem,e,a]
end
end
section
attribute [local congr] Go.Am.ite_cc
open Go Go.Am Go.Asm
open Go.Src (aT am bD cp Ex Stm)
def AY{o:cF}(ho:jS o)(e:Ex):bP Tryz.prog 1 o 191 [exV e] (·=bv (match e with|.mk kind op num name kids=>bD kind op num name (z kids))):=by
 obtain⟨kind,op,num,name,kids⟩:=e;refine hdG Tryz.func191 rfl [.tmp 2] λO bn s0 w0 g=>?_;simp only;obtain⟨X,t⟩:∃X,bD kind op num name (z kids)=X:=⟨_,rfl⟩
 rw[t];unfold exV;simp only[exD,aK,l9,w9];unfold bD at t;by_cases j:kind=1
 .rw[l8 j]at t
  by_cases i:op=0
  case neg=>
   obtain rfl:X=F:=by rw[<-t];simp[i]
   simp only[go_sem,w8 j,i]
  simp only[go_sem,w8 j,w8 i];refine cG rfl VK ?_;rintro _ rfl;cases c:am F name
  .obtain rfl:X=F:=by rw[<-t];simp[c]
   simp only[go_sem,w8 j,w8 i]
  by_cases b:z kids=0
  case neg=>
   obtain rfl:X=F:=by rw[<-t];simp[b]
   have m:(0:Int)<=(z kids:Int):=a7;have d:¬(z kids:Int)<=0:=a7;simp only[go_sem,w8 j,w8 i,j6,m,d]
  have m:(0:Int)<=(z kids:Int):=a7;have d:(z kids:Int)<=0:=a7;obtain rfl:X=T:=by rw[<-t];simp[i,c,b]
  simp only[go_sem,w8 j,w8 i,j6,m,d]
 by_cases n:kind=2
 .rw[j8 j,l8 n]at t
  by_cases i:op=0
  case neg=>
   obtain rfl:X=F:=by rw[<-t];simp[i]
   simp only[go_sem,w8 n,j,i]
  by_cases bk:num=0
  case neg=>
   obtain rfl:X=F:=by rw[<-t];simp[bk]
   simp only[go_sem,w8 n,j,w8 i,bk]
  simp only[go_sem,w8 n,j,w8 i,w8 bk];refine cG rfl VY ?_;rintro _ rfl;cases c:am T name
  .obtain rfl:X=F:=by rw[<-t];simp[c]
   simp only[go_sem,w8 n,j,w8 i,w8 bk]
  by_cases b:z kids=0
  case neg=>
   obtain rfl:X=F:=by rw[<-t];simp[b]
   have m:(0:Int)<=(z kids:Int):=a7;have d:¬(z kids:Int)<=0:=a7;simp only[go_sem,w8 n,j,w8 i,w8 bk,j6,m,d]
  have m:(0:Int)<=(z kids:Int):=a7;have d:(z kids:Int)<=0:=a7;obtain rfl:X=T:=by rw[<-t];simp[i,bk,c,b]
  simp only[go_sem,w8 n,j,w8 i,w8 bk,j6,m,d]
 by_cases u:kind=3
 .rw[j8 j,j8 n,l8 u]at t
  by_cases i:op=0
  case neg=>
   obtain rfl:X=F:=by rw[<-t];simp[i]
   simp only[go_sem,w8 u,j,n,i]
  by_cases bk:num=0
  case neg=>
   obtain rfl:X=F:=by rw[<-t];simp[bk]
   simp only[go_sem,w8 u,j,n,w8 i,bk]
  simp only[go_sem,w8 u,j,n,w8 i,w8 bk];refine cG rfl VY ?_;rintro _ rfl;cases c:am T name
  .obtain rfl:X=F:=by rw[<-t];simp[c]
   simp only[go_sem,w8 u,j,n,w8 i,w8 bk]
  by_cases b:z kids=1
  case neg=>
   obtain rfl:X=F:=by rw[<-t];simp[b]
   by_cases m:(1:Int)<=(z kids:Int)
   .have d:¬(z kids:Int)<=1:=a7
    simp only[go_sem,w8 u,j,n,w8 i,w8 bk,j6,m,d]
   .simp only[go_sem,w8 u,j,n,w8 i,w8 bk,j6,m]
  have m:(1:Int)<=(z kids:Int):=a7;have d:(z kids:Int)<=1:=a7;obtain rfl:X=T:=by rw[<-t];simp[i,bk,c,b]
  simp only[go_sem,w8 u,j,n,w8 i,w8 bk,j6,m,d]
 by_cases v:kind=4
 .rw[j8 j,j8 n,j8 u,l8 v]at t
  by_cases i:op=0
  case neg=>
   obtain rfl:X=F:=by rw[<-t];simp[i]
   simp only[go_sem,w8 v,j,n,u,i]
  by_cases bk:num=0
  case neg=>
   obtain rfl:X=F:=by rw[<-t];simp[bk]
   simp only[go_sem,w8 v,j,n,u,w8 i,bk]
  simp only[go_sem,w8 v,j,n,u,w8 i,w8 bk];refine cG rfl VY ?_;rintro _ rfl;cases c:am T name
  .obtain rfl:X=F:=by rw[<-t];simp[c]
   simp only[go_sem,w8 v,j,n,u,w8 i,w8 bk]
  have m:(0:Int)<=(z kids:Int):=a7;by_cases b:z kids<=6
  case neg=>
   obtain rfl:X=F:=by rw[<-t];simp;omega
   have d:¬(z kids:Int)<=6:=a7;simp only[go_sem,w8 v,j,n,u,w8 i,w8 bk,j6,m,d]
  have d:(z kids:Int)<=6:=a7;obtain rfl:X=T:=by rw[<-t];simp[i,bk,c,b]
  simp only[go_sem,w8 v,j,n,u,w8 i,w8 bk,j6,m,d]
 by_cases w:kind=5
 .rw[j8 j,j8 n,j8 u,j8 v,l8 w]at t
  by_cases i:op=0
  case neg=>
   obtain rfl:X=F:=by rw[<-t];simp[i]
   simp only[go_sem,w8 w,j,n,u,v,i]
  by_cases bk:num=0
  case neg=>
   obtain rfl:X=F:=by rw[<-t];simp[bk]
   simp only[go_sem,w8 w,j,n,u,v,w8 i,bk]
  simp only[go_sem,w8 w,j,n,u,v,w8 i,w8 bk];refine cG rfl VK ?_;rintro _ rfl;cases c:am F name
  .obtain rfl:X=F:=by rw[<-t];simp[c]
   simp only[go_sem,w8 w,j,n,u,v,w8 i,w8 bk]
  by_cases b:z kids=0
  case neg=>
   obtain rfl:X=F:=by rw[<-t];simp[b]
   have m:(0:Int)<=(z kids:Int):=a7;have d:¬(z kids:Int)<=0:=a7;simp only[go_sem,w8 w,j,n,u,v,w8 i,w8 bk,j6,m,d]
  have m:(0:Int)<=(z kids:Int):=a7;have d:(z kids:Int)<=0:=a7;obtain rfl:X=T:=by rw[<-t];simp[i,bk,c,b]
  simp only[go_sem,w8 w,j,n,u,v,w8 i,w8 bk,j6,m,d]
 by_cases P:kind=6
 .rw[j8 j,j8 n,j8 u,j8 v,j8 w,l8 P]at t
  by_cases A:op<4
  case pos=>
   have I:¬4<=op:=a7;obtain rfl:X=F:=by rw[<-t];simp[I]
   simp only[go_sem,w8 P,j,n,u,v,w,A]
  by_cases a:15<op
  case pos=>
   have I:¬op<=15:=a7;obtain rfl:X=F:=by rw[<-t];simp[I]
   simp only[go_sem,w8 P,j,n,u,v,w,A,a]
  have q:4<=op:=a7;have B:op<=15:=a7;by_cases bk:num=0
  case neg=>
   obtain rfl:X=F:=by rw[<-t];simp[bk]
   simp only[go_sem,w8 P,j,n,u,v,w,A,a,bk]
  simp only[go_sem,w8 P,j,n,u,v,w,A,a,w8 bk];refine cG rfl VK ?_;rintro _ rfl;cases c:am F name
  .obtain rfl:X=F:=by rw[<-t];simp[c]
   simp only[go_sem,w8 P,j,n,u,v,w,A,a,w8 bk]
  by_cases b:z kids=2
  case neg=>
   obtain rfl:X=F:=by rw[<-t];simp[b]
   by_cases m:(2:Int)<=(z kids:Int)
   .have d:¬(z kids:Int)<=2:=a7
    simp only[go_sem,w8 P,j,n,u,v,w,A,a,w8 bk,j6,m,d]
   .simp only[go_sem,w8 P,j,n,u,v,w,A,a,w8 bk,j6,m]
  have m:(2:Int)<=(z kids:Int):=a7;have d:(z kids:Int)<=2:=a7;obtain rfl:X=T:=by rw[<-t];simp[q,B,bk,c,b]
  simp only[go_sem,w8 P,j,n,u,v,w,A,a,w8 bk,j6,m,d]
 by_cases x:kind=7
 .rw[j8 j,j8 n,j8 u,j8 v,j8 w,j8 P,l8 x]at t
  by_cases i:op=0
  case neg=>
   obtain rfl:X=F:=by rw[<-t];simp[i]
   simp only[go_sem,w8 x,j,n,u,v,w,P,i]
  by_cases bk:num=0
  case neg=>
   obtain rfl:X=F:=by rw[<-t];simp[bk]
   simp only[go_sem,w8 x,j,n,u,v,w,P,w8 i,bk]
  simp only[go_sem,w8 x,j,n,u,v,w,P,w8 i,w8 bk];refine cG rfl VK ?_;rintro _ rfl;cases c:am F name
  .obtain rfl:X=F:=by rw[<-t];simp[c]
   simp only[go_sem,w8 x,j,n,u,v,w,P,w8 i,w8 bk]
  by_cases b:z kids=1
  case neg=>
   obtain rfl:X=F:=by rw[<-t];simp[b]
   by_cases m:(1:Int)<=(z kids:Int)
   .have d:¬(z kids:Int)<=1:=a7
    simp only[go_sem,w8 x,j,n,u,v,w,P,w8 i,w8 bk,j6,m,d]
   .simp only[go_sem,w8 x,j,n,u,v,w,P,w8 i,w8 bk,j6,m]
  have m:(1:Int)<=(z kids:Int):=a7;have d:(z kids:Int)<=1:=a7;obtain rfl:X=T:=by rw[<-t];simp[i,bk,c,b]
  simp only[go_sem,w8 x,j,n,u,v,w,P,w8 i,w8 bk,j6,m,d]
 by_cases y:kind=8
 .rw[j8 j,j8 n,j8 u,j8 v,j8 w,j8 P,j8 x,l8 (Or.inl y)]at t
  by_cases i:op=0
  case neg=>
   obtain rfl:X=F:=by rw[<-t];simp[i]
   simp only[go_sem,w8 y,j,n,u,v,w,P,x,i]
  by_cases bk:num=0
  case neg=>
   obtain rfl:X=F:=by rw[<-t];simp[bk]
   simp only[go_sem,w8 y,j,n,u,v,w,P,x,w8 i,bk]
  simp only[go_sem,w8 y,j,n,u,v,w,P,x,w8 i,w8 bk];refine cG rfl VK ?_;rintro _ rfl;cases c:am F name
  .obtain rfl:X=F:=by rw[<-t];simp[c]
   simp only[go_sem,w8 y,j,n,u,v,w,P,x,w8 i,w8 bk]
  by_cases b:z kids=2
  case neg=>
   obtain rfl:X=F:=by rw[<-t];simp[b]
   by_cases m:(2:Int)<=(z kids:Int)
   .have d:¬(z kids:Int)<=2:=a7
    simp only[go_sem,w8 y,j,n,u,v,w,P,x,w8 i,w8 bk,j6,m,d]
   .simp only[go_sem,w8 y,j,n,u,v,w,P,x,w8 i,w8 bk,j6,m]
  have m:(2:Int)<=(z kids:Int):=a7;have d:(z kids:Int)<=2:=a7;obtain rfl:X=T:=by rw[<-t];simp[i,bk,c,b]
  simp only[go_sem,w8 y,j,n,u,v,w,P,x,w8 i,w8 bk,j6,m,d]
 by_cases l:kind=9
 .rw[j8 j,j8 n,j8 u,j8 v,j8 w,j8 P,j8 x,l8 (Or.inr l)]at t
  by_cases i:op=0
  case neg=>
   obtain rfl:X=F:=by rw[<-t];simp[i]
   simp only[go_sem,w8 l,j,n,u,v,w,P,x,y,i]
  by_cases bk:num=0
  case neg=>
   obtain rfl:X=F:=by rw[<-t];simp[bk]
   simp only[go_sem,w8 l,j,n,u,v,w,P,x,y,w8 i,bk]
  simp only[go_sem,w8 l,j,n,u,v,w,P,x,y,w8 i,w8 bk];refine cG rfl VK ?_;rintro _ rfl;cases c:am F name
  .obtain rfl:X=F:=by rw[<-t];simp[c]
   simp only[go_sem,w8 l,j,n,u,v,w,P,x,y,w8 i,w8 bk]
  by_cases b:z kids=2
  case neg=>
   obtain rfl:X=F:=by rw[<-t];simp[b]
   by_cases m:(2:Int)<=(z kids:Int)
   .have d:¬(z kids:Int)<=2:=a7
    simp only[go_sem,w8 l,j,n,u,v,w,P,x,y,w8 i,w8 bk,j6,m,d]
   .simp only[go_sem,w8 l,j,n,u,v,w,P,x,y,w8 i,w8 bk,j6,m]
  have m:(2:Int)<=(z kids:Int):=a7;have d:(z kids:Int)<=2:=a7;obtain rfl:X=T:=by rw[<-t];simp[i,bk,c,b]
  simp only[go_sem,w8 l,j,n,u,v,w,P,x,y,w8 i,w8 bk,j6,m,d]
 obtain rfl:X=F:=by rw[<-t];simp[j,n,u,v,w,P,x,y,l]
 simp only[go_sem,j,n,u,v,w,P,x,y,l]
end
end Go.Proofs.YtlacbjnmkhndiaaGreatDoor

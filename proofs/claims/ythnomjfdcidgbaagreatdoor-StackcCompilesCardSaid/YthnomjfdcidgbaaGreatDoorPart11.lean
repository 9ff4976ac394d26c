/- A part of the proof; no conditions. -/
import Derived.Test.YthnomjfdcidgbaaGreatDoorPart10
set_option linter.unusedSimpArgs false
set_option linter.unusedVariables false
set_option maxHeartbeats 64000000
set_option maxRecDepth 100000
namespace Go.Src
section
attribute [local congr] Go.Am.ite_cc
mutual
theorem Nd:∀e:Ex,szE e≤1000000000000000000→inE e
 |.mk _ _ _ _ kids,h=>by
   rw[szE] at h
   exact⟨by have:=(su kids a6).1;omega,(su kids a6).2⟩
theorem su:∀l:List Ex,bH l≤1000000000000000000→l.length≤bH l∧tL l
 |[],_=>⟨j8 _,l7⟩
 |.mk k o n nm kids::l,h=>by
   rw[bH] at h
   have h1:=Nd (.mk k o n nm kids) a6
   have h2:=su l a6
   refine⟨?_,h1,h2.2⟩
   rw[bH,szE,j6]
   omega
end
mutual
theorem Nf:∀e:Stm,szS e≤1000000000000000000→inS e
 |.mk _ _ e th el,h=>by
   rw[szS] at h
   have h1:=su e a6
   have h2:=sw th a6
   have h3:=sw el a6
   exact⟨⟨a6,h1.2⟩,⟨a6,h2.2⟩,a6,h3.2⟩
theorem sw:∀l:List Stm,bu l≤1000000000000000000→l.length≤bu l∧tM l
 |[],_=>⟨j8 _,l7⟩
 |.mk k nm e th el::l,h=>by
   rw[bu] at h
   have h1:=Nf (.mk k nm e th el) a6
   have h2:=sw l a6
   refine⟨?_,h1,h2.2⟩
   rw[bu,szS,j6]
   omega
end
theorem BU:∀{l:List Fn}{f:Fn},f∈l→szF f≤(l.map szF).sum
 |x::l,f,h=>by
   rw[l6,E0]
   rcases y2.1 h with rfl|h
   ·omega
   ·have:=BU h;omega
theorem TK {p:Prog} (h:szP p≤1000000000000000000):InP p:=by
 unfold szP wQ at h
 refine⟨a6,a6,a6,fun f hf=>?_⟩
 have h1:f.params.length+f.locals.length+bu f.body≤(p.funcs.map szF).sum:=BU hf
 have h2:=sw f.body a6
 exact⟨⟨a6,a6⟩,a6,h2.2⟩
end
end Go.Src
namespace Go.Proofs.YthnomjfdcidgbaaGreatDoor
section
attribute [local congr] Go.Am.ite_cc
open Go Go.Am Go.Asm
open Go.Src (jI kk pR)
theorem Jh {o:cO} (src:Str):bW Tryz.prog 3 o 7 [sv src] (· = wo (dq src)):=by
 refine pC 102 3 o aU mixed Tryz.func7 rfl c9 [.cell 2 30,.tmp 3,.tmp 4] rfl c8 c8 (by simp[Tryz.ntmps7]) fun b₀ β0 s0 w0 g=>?_
 simp only[go_sem]
 refine cQ rfl (by simp only[go_sem];exact Nc src) ?_
 rintro _ rfl
 unfold IQ
 obtain⟨hl,hnum⟩:=Src.Gr (s:=src)
 have hsm:=fun p m (h:jI (Src.qN src).1 (kk (Src.qN src).1) 0=.ok p m)=>Src.KB h
 unfold dq Src.Ul
 by_cases he:(Src.qN src).2.2=0
 case neg=>
  have hei:¬((Src.qN src).2.2:Int)=0:=a6
  rw[if_pos he]
  simp only[go_sem,hei]
  exact Wa
 rw[if_neg (by simp[he])]
 have hgo:=Src.RO (ts:=(Src.qN src).1)
 generalize hts:(Src.qN src).1=ts at hl hnum hgo hsm ⊢
 unfold Src.kk at hgo hsm
 generalize hpn:jI ts (4*ts.length+7) 0=pn at hgo hsm ⊢
 simp only[go_sem,he]
 refine aQ aW rfl (MM a6 hnum) Xz 200 a6 (fun i hi=>by simp only[upd];(repeat rw[if_neg (by omega)])) (by simp only[go_sem,rdW,cF]) ?_
 rcases hp:pR ts with⟨p,m,w⟩
 rw[hp] at hgo
 unfold de gY rdW cF
 cases w with
 |true=>
   have hpn2:pn=.no m:=by
    cases pn with
    |ok a k=>cases hgo
    |no k=>
      obtain⟨rfl,_⟩:m=k∧true=true:=by simpa[Src.Goes] using hgo
      rfl
   subst hpn2
   simp only[go_sem]
   refine da aW rfl (by simp only[go_sem];exact BK (q:=(m,true)) (ts:=ts) src (by simp only[go_sem,rdW,cF])) ?_
   rintro _ _ _ ⟨rfl,rfl,rfl⟩
   simp only[go_sem]
   exact Wa
 |false=>
   have hpn2:pn=.ok p m:=by
    cases pn with
    |ok a k=>
      obtain⟨rfl,rfl,_⟩:p=a∧m=k∧true=true:=by simpa[Src.Goes] using hgo
      rfl
    |no k=>simp[Src.Goes] at hgo
   subst hpn2
   have hRt:=FB p (Src.TK (by have:=hsm p m rfl;omega))
   unfold de gY at hRt
   by_cases hm:m<ts.length
   ·have hmi:(m:Int)<(ts.length:Int):=a6
    simp only[go_sem,hmi,j4]
    refine da aW rfl (by simp only[go_sem];exact BK (q:=(m,false)) (ts:=ts) src (by simp only[go_sem,rdW,cF])) ?_
    rintro _ _ _ ⟨rfl,rfl,rfl⟩
    simp only[go_sem]
    refine⟨_,⟨_,⟨_,_,rfl,mu [.nsl,.nsl,.nsl],_,_,rfl,dv _,_,_,rfl,dv _,rfl⟩,rfl⟩,?_⟩
    simp only[if_pos hm]
    rfl
   have hmi:¬(m:Int)<(ts.length:Int):=a6
   obtain⟨z,hz⟩:∃z,Src.eJ p=z:=⟨_,rfl⟩
   rw[hz] at hRt
   simp only[go_sem,hmi,j4]
   refine gU rfl (by simp only[go_sem];exact hRt) ?_
   rintro _ rfl
   cases z
   ·simp only[go_sem]
    refine⟨_,⟨_,⟨_,_,rfl,mu [.nsl,.nsl,.nsl],_,_,rfl,dv _,_,_,rfl,dv _,rfl⟩,rfl⟩,?_⟩
    simp only[if_neg hm,hz]
    rfl
   ·simp only[go_sem]
    refine⟨_,⟨_,⟨_,_,rfl,mu (gY p),_,_,rfl,dv _,_,_,rfl,dv _,rfl⟩,rfl⟩,?_⟩
    simp only[if_neg hm,hz]
    rfl
end
end Go.Proofs.YthnomjfdcidgbaaGreatDoor
namespace Go.Src
section
open Go.Asm (Str)
section
abbrev Th:=Str×Nat×Nat
def aK:List Th→Str→Option (Nat×Nat)
 |[],_=>none
 |t::l,s=>if t.1=s then some t.2 else aK l s
theorem rG (l m:List Th) (s:Str):aK (l++m) s=match aK l s with|some x=>some x|none=>aK m s:=by
 induction l with
 |nil=>rfl
 |cons t l ih=>simp only[A0,aK];split <;> simp_all
theorem fe:∀{l:List Th}{s:Str}{x:Nat×Nat},aK l s=some x→(s,x)∈l
 |t::l,s,x,h=>by
   unfold aK at h
   split at h
   ·rename_i e;cases h;subst e;simp
   ·exact P2 _ (fe h)
def ce:List Th→List Th→Bool
 |_,[]=>true
 |seen,t::l=>(aK seen t.1).isNone&&ce (seen++[t]) l
theorem qh (t:Th):∀(l seen:List Th),ce seen (l++[t])=(ce seen l&&(aK (seen++l) t.1).isNone)
 |[],seen=>by simp[ce]
 |x::l,seen=>by simp only[A0,ce,qh t l];rw[r0,G8,D0]
def thV (vs:List Str):List Th:=vs.mapIdx fun i n=>(n,2,i)
def thA (as_:List (Str×Int)):List Th:=as_.mapIdx fun i a=>(a.1,3,i)
def thF (fs:List Fn):List Th:=fs.mapIdx fun i f=>(f.name,4,i)
def bF (p:Prog):List Th:=thV p.vars++thA p.arrays++thF p.funcs
def thL (k:Nat) (ns:List Str):List Th:=ns.mapIdx fun i n=>(n,1,k+i)
def bM (f:Fn):List Th:=thL 0 f.params++thL f.params.length f.locals
def bj (o i:List Th) (s:Str):Option (Nat×Nat):=match aK i s with|some x=>some x|none=>aK o s
def bU (fnd:Str→Option (Nat×Nat)) (i:Nat) (kind:Nat) (name:Str):Bool:=
 match fnd name with
 |none=>false
 |some (k,n)=>if kind=2 then k == 1 || k == 2 else if kind=3 then k == 3 else k == 4 && decide (n<i)
def gN (fnd:Str→Option (Nat×Nat)) (fs:List Fn) (i:Nat) (kind:Nat) (name:Str) (args:Nat):Bool:=
 match fnd name with
 |none=>true
 |some (k,n)=>if kind=4∧k=4∧n<i then(match fs[n]? with|some f=>f.params.length == args|none=>true) else true
mutual
def okE (u:Nat→Str→Nat→Bool):Ex→Bool
 |.mk kind _ _ name kids=>(if kind=2 then u 2 name 0 else if kind=3 then u 3 name 0 else if kind=4 then u 4 name kids.length else true) && dO u kids
def dO (u:Nat→Str→Nat→Bool):List Ex→Bool
 |[]=>true
 |e::l=>okE u e&&dO u l
end
mutual
def okS (u:Nat→Str→Nat→Bool):Stm→Bool
 |.mk kind name e th el=>(if kind=1 then u 2 name 0 else if kind=2 then u 3 name 0 else if kind=6 then u 4 name e.length else true) && dO u e && er u th && er u el
def er (u:Nat→Str→Nat→Bool):List Stm→Bool
 |[]=>true
 |s::l=>okS u s&&er u l
end
def kO (p:Prog) (i:Nat) (f:Fn):Bool:=ce [] (bM f)&&er (fun k n _=>bU (bj (bF p) (bM f)) i k n) f.body
def AG (p:Prog) (i:Nat) (f:Fn):Bool:=er (fun k n a=>gN (bj (bF p) (bM f)) p.funcs i k n a) f.body
def dR {α:Type} (c:Nat→α→Bool):Nat→List α→Bool
 |_,[]=>true
 |i,a::l=>c i a&&dR c (i+1) l
theorem zb {α:Type} (c:Nat→α→Bool) (x:α):∀(l:List α) (i:Nat),dR c i (l++[x])=(dR c i l&&c (i+l.length) x)
 |[],i=>by simp[dR]
 |a::l,i=>by simp only[A0,dR,zb c x l,j6,D0];rw[show i+1+l.length=i+(l.length+1) by omega]
def Ro:Str:=[109,97,105,110]
def jN (p:Prog):Nat:=
 if (ce [] (bF p) && dR (kO p) 0 p.funcs)=false then 4
 else match p.funcs.getLast? with
  |none=>0
  |some f=>if dR (AG p) 0 p.funcs=true∧f.name=Ro∧f.params=[]∧f.word=false then 0 else 1
variable {s:Str}{k n:Nat}{fs:List Str}
theorem Gs {fs:List Fn} (h:(s,k,n)∈thF fs):k=4∧n<fs.length:=by
 simp only[thF,H2] at h
 obtain⟨i,hi,e⟩:=h
 cases e
 exact⟨rfl,hi⟩
theorem Rp (h:(s,k,n)∈thV fs):k=2:=by
 simp only[thV,H2] at h
 obtain⟨i,hi,e⟩:=h
 cases e
 rfl
theorem Rq {fs:List (Str×Int)} (h:(s,k,n)∈thA fs):k=3:=by
 simp only[thA,H2] at h
 obtain⟨i,hi,e⟩:=h
 cases e
 rfl
theorem BT {j:Nat} (h:(s,k,n)∈thL j fs):k=1∧n<j+fs.length:=by
 simp only[thL,H2] at h
 obtain⟨i,hi,e⟩:=h
 cases e
 exact⟨rfl,a6⟩
theorem Og {p:Prog}{f:Fn}{n:Nat} (h:bj (bF p) (bM f) s=some (4,n)):n<p.funcs.length:=by
 unfold bj at h
 split at h
 ·rename_i hf
  cases h
  have:=fe hf
  unfold bM at this
  rcases C8.1 this with h|h
  ·exact absurd (BT h).1 a8
  ·exact absurd (BT h).1 a8
 ·have:=fe h
  unfold bF at this
  rcases C8.1 this with h|h
  ·rcases C8.1 h with h|h
   ·exact absurd (Rp h) a8
   ·exact absurd (Rq h) a8
  ·exact(Gs h).2
end
end
end Go.Src

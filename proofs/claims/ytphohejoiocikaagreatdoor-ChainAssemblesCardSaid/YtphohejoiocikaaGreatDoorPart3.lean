/- A part of the proof; no conditions. -/
import Derived.Test.YtphohejoiocikaaGreatDoorPart2
import Derived.Laws.Strings
import Derived.Laws.StructEq
import Derived.ChangeKeysEq
import Derived.Lib.ConvBytes
import Derived.Laws.BytesString
import Derived.Deep.LoopGhost
import Derived.Deep.Upon
import Derived.Scope
set_option linter.unusedSimpArgs false
set_option linter.unusedVariables false
set_option maxHeartbeats 64000000
set_option maxRecDepth 100000
namespace Go.Am
section
section
def gv:D→Bool
 |.sl _|.fn _|.iptr _|.yld _=>false
 |_=>true
variable {K:AV→Prop}{v:Value}{t:Nat}{s:St}{J:Nat→Prop}{d:TypeDesc}{x:AV}{kd:TypeDesc}{b:Bool}{N:Nat}{a:Act}{op:BinOp}{ok:Bool}{c:Option C}{k:Box K}
theorem bm.of_plain{w:World}{x:D} (h:gv x=true):bm J w x (dV x):=by
 cases x <;> first|(simp[gv] at h;done)|constructor
structure lm (P:Program) (t:Nat) (ti:TI):Prop where
 desc:P.underlying t=some ti.desc
 info:∃i,P.info? t=some i∧i.size=ti.size∧i.bytes=ti.bytes∧∃z,i.zero=some z∧z.cells.toList=ti.zero.map dV
 plain:ti.zero.all gv=true
 zlen:ti.zero.length=ti.size
 zone:db ti.desc=false→∀i zv,P.info? t=some i→i.zero=some zv→zv=dV (ti.zero.headD .nsl)
def aI (P:Program) (T:Nat→TI):Prop:=∀t,okD (T t).desc=true→lm P t (T t)
def vo (l:List (Nat×TI)) (t:Nat):TI:=((l.find? fun p=>p.1==t).map (·.2)).getD ⟨.invalid,0,0,[]⟩
theorem pM {P:Program}{l:List (Nat×TI)} (h:∀p∈l,lm P p.1 p.2):aI P (vo l):=by
 intro t ht
 unfold vo at *
 cases hf:l.find? fun p=>p.1==t with
 |none=>simp[hf,okD] at ht
 |some p=>
   have h1:=List.find?_some hf
   have h2:=LI hf
   simp only[D1] at h1
   simpa[h1] using h p h2
theorem qQ (h:isSlice d=true):okD d=true:=by cases d <;> simp_all[isSlice,okD]
theorem xL (h:isSlice d=true):∃e,d=.slice e:=by cases d <;> simp_all[isSlice]
section
variable {P:Program}{T:Nat→TI}{b₀:Bs}{β:Loc}{g:Nat→Nat}{ob:Obs}{w:World}
theorem aL{ti:TI} (h:lm P t ti):(sizeOf t).run P w=.ok ti.size w:=by
 obtain⟨i,hi,hs,_⟩:=h.info
 simp[sizeOf,typeInfo,hi,hs]
theorem rV (h:db d=true):d.isRow=true:=by cases d <;> simp_all[db]
theorem kb{ti:TI} (h:lm P t ti):(isAgg t).run P w=.ok (db ti.desc) w:=by
 unfold isAgg
 rw[Sem.run_bind,run_underlying h.desc w]
 simp only[Result.andThen_ok]
 cases ti.desc <;> rfl
theorem gg {α:Type} (R:α→Value→Prop) (cell:Nat→Option Value):∀(cs:List α) (_:∀(j:Nat) (c:α),cs[j]? = some c→∃v,cell j=some v∧R c v),
  ∃vs:List Value,vs.length=cs.length∧(∀(j:Nat) (v:Value),vs[j]? = some v→cell j=some v)∧∀(j:Nat) (c:α),cs[j]? = some c→∃v,vs[j]? = some v∧R c v
 |[],_=>⟨[],rfl,⟨fun _ _ h=>by simp at h,fun _ _ h=>by simp at h⟩⟩
 |c::cs,h=>by
   obtain⟨v,hv,hr⟩:=h 0 c rfl
   obtain⟨vs,h1,h2,h3⟩:=gg R (fun j=>cell (j+1)) cs (fun j c' hc=>h (j+1) c' (by simpa using hc))
   refine⟨v::vs,by simp[h1],fun j u hu=>?_,fun j c' hc=>?_⟩
   ·cases j with
    |zero=>simp at hu;subst hu;exact hv
    |succ j=>exact h2 j u (by simpa using hu)
   ·cases j with
    |zero=>simp at hc;subst hc;exact⟨v,rfl,hr⟩
    |succ j=>simpa using h3 j c' (by simpa using hc)
theorem ct {b:Nat}{arr:Array Value}{el:TypeId}{fr:Nat×Nat} (h:w.heap[b]? = some (.cells arr el fr)) (j:Nat):w.cell? ⟨b,j,none⟩=arr[j]?:=by
 simp[World.cell?,h]
theorem cq (b o j:Nat):(⟨b,o,none⟩:Addr).add j=⟨b,o+j,none⟩:=Addr.add_mid b o j
theorem aq {α:Type}{x:Option α}{K:α→Prop}{k:Box K} (h:aG x k):∃a,x=some a∧K a:=by
 cases x with
 |none=>exact h.elim
 |some a=>exact⟨a,rfl,h⟩
theorem fy{K:Bool→Prop}{k:Box K} (h:gk b k):K b:=by
 cases b
 ·exact h.2 rfl
 ·exact h.1 rfl
theorem bm.inv_bool (h:bm J w (.bool b) v):v=.bool b:=by cases h;rfl
theorem bm.inv_int{k:IntKind}{n:Int} (h:bm J w (.int k n) v):v=.int k n:=by cases h;rfl
theorem bm.inv_str{s:List UInt8} (h:bm J w (.str s) v):v=.string ⟨s.toArray⟩:=by cases h;rfl
theorem bm.inv_nsl (h:bm J w .nsl v):v=.slice none 0 0:=by cases h;rfl
theorem kF{K:Bool→Prop}{k:Box K} (h:kB x k) (hv:ab b₀ β g ob w x v):∃b,v=.bool b∧K b:=by
 unfold kB at h
 split at h
 ·rename_i b
  simp only[ab,aj] at hv
  exact⟨b,hv.inv_bool,fy h⟩
 ·exact M4
theorem nf (hT:aI P T) (hr:Rel b₀ N s β a w) (h:mX (T t) s x k)
  (hv:ab b₀ β s.gen s.obj w x v):∃y cv,K y∧(∀w',Ext w w'→(Instr.loadAt t v).run P w'=.ok cv w')∧ab b₀ β s.gen s.obj w y cv:=by
 unfold mX at h
 split at h
 ·rename_i id g off
  obtain⟨hok,hg,h⟩:=h
  obtain⟨cells,ho,h⟩:=aq h
  have ht:=hT t hok
  simp only[ab,aj] at hv
  obtain⟨_,_,hv⟩:=hv
  obtain⟨ad,hβ,hsp,rfl⟩:=hv hg Oi
  have hob:=hr.obj id cells ho
  rw[hβ] at hob
  obtain⟨_,arr,el,lo,hi,hblk,_,hlen,hcells⟩:=hob.cells hsp
  unfold od at h
  split at h
  ·rename_i hagg
   obtain⟨hsz,hK⟩:=h
   obtain⟨vs,e1,e2,e3⟩:=gg (aj b₀ β s.gen s.obj w) (fun j=>arr[ad.off+(off+j)]?) ((cells.drop off).take (T t).size) (fun j c hc=>by
    rw[D5] at hc
    split at hc
    ·rw[A4] at hc;exact hcells (off+j) c hc
    ·cases hc)
   have hl:vs.length=(T t).size:=by rw[e1];simp;omega
   refine⟨_,.agg vs.toArray,hK,fun w' hw'=>?_,?_⟩
   ·refine run_loadAt_mid w' ad.block (ad.off+off) t vs (T t).desc (fun j u hu=>?_) ht.desc (rV hagg) ?_
    ·rw[ct (hw'.cells hblk)];have:=e2 j u hu;rwa [←z1] at this
    ·obtain⟨i,hi,hs,_⟩:=ht.info;simp[hi,hs,hl]
   ·simp only[ab]
    exact⟨_,rfl,by simp[e1],fun i c hc=>by simpa using e3 i c hc⟩
  ·rename_i hagg
   obtain⟨c,hc,hK⟩:=aq h
   obtain⟨u,hu,hru⟩:=hcells off c hc
   refine⟨_,u,hK,fun w' hw'=>?_,by simpa only[ab] using hru⟩
   have:w'.cell? ⟨ad.block,ad.off+off,none⟩=some u:=by rw[ct (hw'.cells hblk)];exact hu
   simp[Instr.loadAt,Instr.sureAddr,loadVar,kb ht,hagg,this]
 ·rename_i cs
  obtain⟨hok,h⟩:=h
  have ht:=hT t hok
  simp only[ab,aj] at hv
  cases hv with
  |iptr vals hJ hcl hrd=>
  rename_i b off
  unfold ve at h
  split at h
  ·rename_i hagg
   obtain⟨hsz,hK⟩:=h
   obtain⟨vs,e1,e2,e3⟩:=gg (fun(c:D) v=>aj b₀ β s.gen s.obj w (.d c) v) (fun j=>w.cell? ⟨b,off+j,none⟩) (cs.take (T t).size) (fun j c hc=>by
    rw[D5] at hc
    split at hc
    ·exact⟨_,hcl j c hc,hrd j c hc⟩
    ·cases hc)
   have hl:vs.length=(T t).size:=by rw[e1];simp;omega
   refine⟨_,.agg vs.toArray,hK,fun w' hw'=>?_,?_⟩
   ·refine run_loadAt_mid w' b off t vs (T t).desc (fun j u hu=>hw'.cell (e2 j u hu)) ht.desc (rV hagg) ?_
    obtain⟨i,hi,hs,_⟩:=ht.info;simp[hi,hs,hl]
   ·simp only[ab]
    refine⟨_,rfl,by simp[e1],fun i c hc=>?_⟩
    rw[l8] at hc
    cases hq:(cs.take (T t).size)[i]? with
    |none=>rw[hq] at hc;cases hc
    |some y=>
      rw[hq] at hc
      simp only[r0,l9] at hc
      subst hc
      simpa using e3 i y hq
  ·rename_i hagg
   obtain⟨c,hc,hK⟩:=aq h
   refine⟨_,vals 0,hK,fun w' hw'=>?_,by simp only[ab,aj];exact hrd 0 c hc⟩
   have:w'.cell? ⟨b,off,none⟩=some (vals 0):=hw'.cell (hcl 0 c hc)
   simp[Instr.loadAt,Instr.sureAddr,loadVar,kb ht,hagg,this]
 ·exact M4
theorem cL (hT:aI P T) (h:cS T t=true):∃e,(T t).desc=.slice e∧aS T t=T e∧P.underlying t=some (.slice e)∧lm P e (T e):=by
 simp only[cS,l5] at h
 obtain⟨e,he⟩:=xL h.1
 have h2:aS T t=T e:=by simp[aS,he]
 exact⟨e,he,h2,by rw[(hT t (qQ h.1)).desc,he],hT e (by rw[←h2];exact h.2)⟩
theorem eO{id g' sz off len:Nat} (h:aj b₀ β s.gen s.obj w (.osl id g' sz off len) v) (hg:s.gen id=g') (ho:(s.obj id).isSome=true):ju w sz off len v (β id):=h.2.2 hg ho
theorem ju.slice {sz off len:Nat}{v:Value}{x:Option Addr} (h:ju w sz off len v x):∃a cap,v=.slice a len cap∧len≤cap:=by
 cases x with
 |none=>exact⟨none,0,by rw[h.2,h.1],by rw[h.1];exact b9 _⟩
 |some a=>
   rcases h.2 with⟨cap,hv,hl,_⟩|⟨rfl,o,hv⟩
   ·exact⟨_,cap,hv,hl⟩
   ·exact⟨_,0,hv,b9 _⟩
theorem ml (hT:aI P T) (hsl:cS T t=true) {x ix:AV}{v vi:Value}
  (h:ei s (aS T t).size x ix k) (hv:ab b₀ β s.gen s.obj w x v) (hi:ab b₀ β s.gen s.obj w ix vi) :
  ∃y cv,K y∧(∀w',Ext w w'→(Instr.indexAt t v vi).run P w'=.ok cv w')∧ab b₀ β s.gen s.obj w y cv:=by
 obtain⟨e,he1,he2,hu,hte⟩:=cL hT hsl
 rw[he2] at h
 unfold ei at h
 split at h
 ·rename_i kd i
  simp only[ab,aj] at hi
  obtain rfl:=hi.inv_int
  split at h
  ·rename_i es
   obtain⟨h0,h⟩:=h
   obtain⟨c,hc,hsz,hK⟩:=aq h
   have hlt:i.toNat<es.length:=(j0.1 hc).1
   simp only[ab,aj] at hv
   cases hv with
   |sl0=>simp at hc
   |sl vals hcap hJ hs hcl hrd=>
   rename_i b off cap sz
   have hsz':sz=(T e).size:=by rw[←hsz];exact(hs c (l4 hc)).symm
   refine⟨_,.pointer (some ⟨b,off+i.toNat*(T e).size,none⟩),hK,fun w' _=>?_,?_⟩
   ·have:i<es.length:=a6
    simp[Instr.indexAt,asIntOf,run_underlying hu,h0,this,aL hte,cq]
   ·simp only[ab,aj]
    refine .iptr (vals i.toNat) (fun _=>hJ (by rintro rfl;cases hc)) (fun j x hx=>?_) (fun j x hx=>hrd _ _ hc j x hx)
    rw[←hsz'];exact hcl _ _ hc j x hx
  ·rename_i id g sz' off len
   obtain⟨hg,ho,h0,hlt,rfl,hK⟩:=h
   simp only[ab] at hv
   have h3':=eO hv hg ho
   cases hβ:β id with
   |none=>
     rw[hβ] at h3'
     obtain⟨rfl,_⟩:=h3'
     omega
   |some ad=>
     rw[hβ] at h3'
     obtain⟨hsp,h3'⟩:=h3'
     rcases h3' with⟨cap,rfl,hcap,_⟩|⟨rfl,_⟩
     ·refine⟨_,.pointer (some ⟨ad.block,ad.off+off+i.toNat*(T e).size,none⟩),hK,fun w' _=>?_,?_⟩
      ·simp[Instr.indexAt,asIntOf,run_underlying hu,h0,hlt,aL hte,cq]
      ·exact M3
     ·omega
  ·exact M4
 ·exact M4
theorem oD (hT:aI P T){x ix:AV}{v vi:Value}
  (h:jp T (T t).desc s x ix k) (hv:ab b₀ β s.gen s.obj w x v) (hi:ab b₀ β s.gen s.obj w ix vi) :
  ∃y cv,K y∧(∀w',Ext w w'→(Instr.indexAt t v vi).run P w'=.ok cv w')∧ab b₀ β s.gen s.obj w y cv:=by
 unfold jp at h
 split at h
 ·rename_i n e hd
  have hu:=(hT t Ot).desc
  rw[hd] at hu
  split at h
  ·rename_i kd i
   simp only[ab,aj] at hi
   obtain rfl:=hi.inv_int
   split at h
   ·rename_i id g off
    obtain⟨hg,ho,hok,h0,hlt,hK⟩:=h
    have hte:=hT e hok
    simp only[ab,aj] at hv
    obtain⟨ad,hβ,hsp,rfl⟩:=hv.2.2 hg ho
    refine⟨_,.pointer (some ⟨ad.block,ad.off+off+i.toNat*(T e).size,none⟩),hK,fun w' _=>?_,?_⟩
    ·simp[Instr.indexAt,asIntOf,run_underlying hu,h0,hlt,aL hte,cq,Instr.sureAddr]
    ·exact M3
   ·exact M4
  ·exact M4
 ·exact M4
theorem size_mk (s:List UInt8):(⟨s.toArray⟩:ByteArray).size=s.length:=by show s.toArray.size=s.length;simp
theorem getElem?_mk (s:List UInt8) (i:Nat):(⟨s.toArray⟩:ByteArray)[i]? = s[i]?:=by
 by_cases h:i<s.length
 ·have this:i<(⟨s.toArray⟩:ByteArray).size:=by simpa[ByteArray.size] using h
  rw[getElem?_pos (⟨s.toArray⟩:ByteArray) i this,p7 h]
  rfl
 ·have this:¬i<(⟨s.toArray⟩:ByteArray).size:=by simpa[ByteArray.size] using h
  rw[getElem?_neg (⟨s.toArray⟩:ByteArray) i this,v8 a6]
theorem qR (hu:P.underlying t=some .string) {x ix:AV}{v vi:Value}
  (h:oe x ix k) (hv:ab b₀ β s.gen s.obj w x v) (hi:ab b₀ β s.gen s.obj w ix vi) :
  ∃y cv,K y∧(∀w',Ext w w'→(Instr.index t v vi).run P w'=.ok cv w')∧ab b₀ β s.gen s.obj w y cv:=by
 unfold oe at h
 split at h
 ·rename_i kd i
  simp only[ab,aj] at hi
  obtain rfl:=hi.inv_int
  split at h
  ·rename_i bs
   obtain⟨h0,h⟩:=h
   obtain⟨c,hc,hK⟩:=aq h
   simp only[ab,aj] at hv
   obtain rfl:=hv.inv_str
   refine⟨_,.int .u8 c.toNat,hK,fun w' _=>?_,by simp only[ab,aj];exact .int _ _⟩
   have:(⟨bs.toArray⟩:ByteArray)[i.toNat]? = some c:=by rw[getElem?_mk];exact hc
   simp[Instr.index,asIntOf,run_underlying hu,h0,this]
  ·exact M4
 ·exact M4
theorem dq{kd:IntKind}{n:Int}{x:Sem Value} (h:K (iv kd n)) (hr:∀w,x.run P w=.ok (.int kd n) w):∃z cv,K z∧(∀w',Ext w w'→x.run P w'=.ok cv w')∧ab b₀ β g ob w z cv:=
 ⟨_,_,h,fun w' _=>hr w',by simp only[ab,aj];exact .int _ _⟩
theorem du{x:Sem Value} (h:K (bv b)) (hr:∀w,x.run P w=.ok (.bool b) w):∃z cv,K z∧(∀w',Ext w w'→x.run P w'=.ok cv w')∧ab b₀ β g ob w z cv:=
 ⟨_,_,h,fun w' _=>hr w',by simp only[ab,aj];exact .bool _⟩
theorem ua{s:List UInt8}{x:Sem Value} (h:K (sv s)) (hr:∀w,x.run P w=.ok (.string ⟨s.toArray⟩) w):∃z cv,K z∧(∀w',Ext w w'→x.run P w'=.ok cv w')∧ab b₀ β g ob w z cv:=
 ⟨_,_,h,fun w' _=>hr w',by simp only[ab,aj];exact .str _⟩
theorem xM{kd k2:IntKind}{x y:Int}{t:TypeId} (hk:sameKind op kd k2) (h:jq op kd x y k) :
  ∃z cv,K z∧(∀w',Ext w w'→(binOp op t (.int kd x) (.int k2 y)).run P w'=.ok cv w')∧ab b₀ β g ob w z cv:=by
 cases op <;> simp only[jq,sameKind] at h hk <;> (try subst hk)
 case quo=>exact dq h.2 (fun w=>by simp[binOp,Op.intDiv,h.1])
 case rem=>exact dq h.2 (fun w=>by simp[binOp,Op.intDiv,h.1])
 case shl=>have:=Int.not_lt.2 h.1;exact dq h.2 (fun w=>by simp[binOp,Op.shift,this])
 case shr=>have:=Int.not_lt.2 h.1;exact dq h.2 (fun w=>by simp[binOp,Op.shift,this])
 case add=>exact dq h (fun w=>by simp[binOp,Op.intArith])
 case sub=>exact dq h (fun w=>by simp[binOp,Op.intArith])
 case mul=>exact dq h (fun w=>by simp[binOp,Op.intArith])
 case and=>exact dq h (fun w=>by simp[binOp,Op.intBits])
 case or=>exact dq h (fun w=>by simp[binOp,Op.intBits])
 case xor=>exact dq h (fun w=>by simp[binOp,Op.intBits])
 case andNot=>exact dq h (fun w=>by simp[binOp,Op.intBits])
 case eql=>exact du h (fun w=>by simp[binOp,Op.intCmp];rfl)
 case neq=>exact du h (fun w=>by simp[binOp,Op.intCmp];rfl)
 all_goals exact du h (fun w=>by simp[binOp,Op.intCmp])
theorem nJ (x y:List UInt8):(x==y)=decide (x=y):=by rw[G1];simp
theorem wz (x y:List UInt8):(⟨x.toArray⟩:ByteArray)++(⟨y.toArray⟩:ByteArray)=⟨(x++y).toArray⟩:=by
 apply ByteArray.ext;simp
theorem xN{x y:List UInt8}{t:TypeId} (h:tR op x y k) :
  ∃z cv,K z∧(∀w',Ext w w'→(binOp op t (.string ⟨x.toArray⟩) (.string ⟨y.toArray⟩)).run P w'=.ok cv w')∧ab b₀ β g ob w z cv:=by
 cases op <;> simp only[tR] at h
 case add=>
  refine ua h.2 fun w=>?_
  have h1:=h.1
  have h2:¬(((⟨x.toArray⟩:ByteArray).size+(⟨y.toArray⟩:ByteArray).size:Nat):Int)>IntKind.i64.max:=by
   have e1:=size_mk x
   have e2:=size_mk y
   have e3:IntKind.i64.max=9223372036854775807:=a8
   omega
  simp only[binOp,Op.stringOp,if_neg h2,wz]
  rfl
 case eql=>exact du h (fun w=>by simp[binOp,Op.stringOp,nJ])
 case neq=>exact du h (fun w=>by simp[binOp,Op.stringOp,nJ])
 case lss=>exact du h (fun w=>by simp[binOp,Op.stringOp])
 case leq=>exact du h (fun w=>by simp[binOp,Op.stringOp,nJ])
 case gtr=>exact du h (fun w=>by simp[binOp,Op.stringOp,nJ])
 case geq=>exact du h (fun w=>by simp[binOp,Op.stringOp])
theorem ee (op:BinOp) (t:TypeId) (x y:Operand) (a b:Value) (h:∀cs,a≠.agg cs) (h2:a≠.nilIface):(eqGuard op t x y a b).run P w=.ok () w:=by
 unfold eqGuard
 cases op <;> (try rfl) <;> (cases a <;> first|(exfalso;exact h _ rfl)|(exfalso;exact h2 rfl)|rfl)
theorem run_equal_bool {t:TypeId} (hu:P.underlying t=some .bool) (a b:Bool):(Op.equal t (.bool a) (.bool b)).run P w=.ok (a==b) w:=by
 obtain⟨d,hd⟩:∃d,Op.maxDepth=d+1:=⟨9999,rfl⟩
 unfold Op.equal
 rw[hd]
 simp[Op.equalIn,run_underlying hu]
theorem kG {g:Nat→Nat}{ob:Obs}{k:IntKind}:∀{cs:List C}{ns:List Int}{vs:List Value},pY k cs=some ns→vs.length=cs.length→(∀(i:Nat) (c:C),cs[i]? = some c→∃u,vs[i]? = some u∧aj b₀ β g ob w c u)→vs=ns.map (Value.int k)
 |[],ns,vs,h,hl,_=>by
   cases h
   simpa using hl
 |c::cs,ns,vs,h,hl,hr=>by
   obtain⟨u,hu,hc⟩:=hr 0 c rfl
   match vs,hl with
   |v::vs,hl=>
     obtain rfl:=B3 hu
     unfold pY at h
     split at h
     ·rename_i he;cases he
     ·rename_i k' n r he
      cases he
      split at h
      ·rename_i hk
       subst hk
       cases hi:pY k' cs with
       |none=>rw[hi] at h;cases h
       |some ms=>
         rw[hi] at h
         cases h
         simp only[aj] at hc
         rw[hc.inv_int,kG hi OF (fun i c h=>hr (i+1) c h)]
         rfl
      ·cases h
     ·cases h
theorem lp {e:TypeId}{k:IntKind} (he:P.underlying e=some (.int k)) {cs:List Value}{i:Nat} (h:cs[i]? = some v):(part e cs.toArray i).run P w=.ok v w:=by
 simp[part,isAgg,run_underlying he,h]
theorem jh {e:TypeId}{k:IntKind} (he:P.underlying e=some (.int k)) (d:Nat) {xs ys:List Int}:∀(m j:Nat) (w:World),xs.length=j+m→ys.length=j+m→
  (Op.eqItems (d+1) e 1 (xs.map (Value.int k)).toArray (ys.map (Value.int k)).toArray (List.range' j m)).run P w=.ok (decide (xs.drop j=ys.drop j)) w
 |0,j,w,hx,hy=>by
   rw[l6 a6,l6 a6]
   simp[Op.eqItems]
 |m+1,j,w,hx,hy=>by
   have h1:j<xs.length:=a6
   have h2:j<ys.length:=a6
   rw[List.range'_succ]
   simp only[Op.eqItems,Sem.run_bind,H5]
   rw[lp he (v:=.int k xs[j]) (by simp[h1])]
   simp only[Result.andThen_ok]
   rw[lp he (v:=.int k ys[j]) (by simp[h2])]
   simp only[Result.andThen_ok]
   rw[run_equalIn_int w d e k k _ _ he]
   simp only[Result.andThen_ok]
   have he2:decide (xs.drop j=ys.drop j)=(decide (xs[j]=ys[j])&&decide (xs.drop (j+1)=ys.drop (j+1))):=by
    rw[z7 h1,z7 h2]
    simp only[K7,Bool.decide_and]
   rw[he2]
   by_cases h:xs[j]=ys[j]
   ·simp only[h,beq_self_eq_true,LN,Bool.false_eq_true,A1,LK,A0]
    exact jh he d m (j+1) w a6 a6
   ·have hb:(xs[j]==ys[j])=false:=by simpa using h
    simp[hb,h]
theorem oF (hT:aI P T) {g:Nat→Nat}{ob:Obs}{t n e:Nat}{xs ys:List C}{vs us:Array Value} (ht:P.underlying t=some (.array n e)) {K:Bool→Prop}{k:Box K} (h:AC (T e) n xs ys k)
  (hv:ig b₀ β g ob w xs vs) (hu:ig b₀ β g ob w ys us):∃b,K b∧∀w',(Op.equalIn 10000 t (.agg vs) (.agg us)).run P w'=.ok b w'∧P.eqGuardType P.depth t=false:=by
 unfold AC at h
 split at h
 ·rename_i kd hd
  obtain⟨hs,h⟩:=h
  have hte:=hT e Ot
  have he:=hte.desc
  rw[hd] at he
  obtain⟨i,hi,hsz,_⟩:=hte.info
  unfold aG at h
  split at h
  ·rename_i a ha
   split at h
   ·rename_i b hb
    obtain⟨⟨hla,hlb⟩,hK⟩:=h
    have e1:=kG (vs:=vs.toList) ha (by simpa using hv.1) (fun i c hc=>by simpa using hv.2 i c hc)
    have e2:=kG (vs:=us.toList) hb (by simpa using hu.1) (fun i c hc=>by simpa using hu.2 i c hc)
    refine⟨_,hK,fun w'=>⟨?_,?_⟩⟩
    ·rw[show vs=(a.map (Value.int kd)).toArray from by rw[←e1],show us=(b.map (Value.int kd)).toArray from by rw[←e2]]
     rw[run_equalIn_array w' 9999 _ _ ht hi,show P.cellsOf e=1 by simp[Program.cellsOf,hi,hsz,hs],List.range_eq_range',jh he 9998 n 0 w' a6 a6]
     rfl
    ·unfold Program.depth
     rw[show 2*(P.types.size+Made.depth)+2=(2*(P.types.size+Made.depth)+1)+1 from rfl]
     simp[Program.eqGuardType,ht,he]
   ·exact M4
  ·exact M4
 ·exact M4
theorem ub (hT:aI P T){x y:AV}{v u:Value} (h:tS T (T t).desc op x y k)
  (hv:ab b₀ β s.gen s.obj w x v) (hu:ab b₀ β s.gen s.obj w y u) (ox oy:Operand) :
  ∃z cv,K z∧(∀w',Ext w w'→(do eqGuard op t ox oy v u;binOp op t v u:Sem Value).run P w'=.ok cv w')∧ab b₀ β s.gen s.obj w z cv:=by
 unfold tS at h
 split at h
 ·simp only[ab,aj] at hv hu
  obtain rfl:=hv.inv_int
  obtain rfl:=hu.inv_int
  obtain⟨z,cv,h1,h2,h3⟩:=xM (b₀:=b₀) (β:=β) (g:=s.gen) (ob:=s.obj) (w:=w) (P:=P) (t:=t) h.1 h.2
  exact NN
 ·simp only[ab,aj] at hv hu
  obtain rfl:=hv.inv_str
  obtain rfl:=hu.inv_str
  obtain⟨z,cv,h1,h2,h3⟩:=xN (b₀:=b₀) (β:=β) (g:=s.gen) (ob:=s.obj) (w:=w) (P:=P) (t:=t) h
  exact NN
 ·rename_i a b
  simp only[ab,aj] at hv hu
  obtain rfl:=hv.inv_bool
  obtain rfl:=hu.inv_bool
  unfold AB at h
  split at h
  ·rename_i hd
   exact MC
  ·rename_i hd
   exact MC
  ·exact M4
 ·rename_i xs ys
  simp only[ab] at hv hu
  obtain⟨vs,rfl,hv⟩:=hv
  obtain⟨us,rfl,hu⟩:=hu
  unfold Hh at h
  split at h
  ·rename_i n e hd
   have hty:=(hT t Ot).desc
   rw[hd] at hty
   obtain⟨b,hK,hr⟩:=oF hT hty h hv hu
   refine du hK fun w=>?_
   rw[Sem.run_bind,run_eqGuard_agg w _ _ _ _ _ _ (hr w).2]
   simp only[Result.andThen_ok]
   rw[run_eql_struct,(hr w).1]
   rfl
  ·rename_i n e hd
   have hty:=(hT t Ot).desc
   rw[hd] at hty
   obtain⟨b,hK,hr⟩:=oF hT hty h hv hu
   refine du hK fun w=>?_
   rw[Sem.run_bind,run_eqGuard_agg w _ _ _ _ _ _ (hr w).2]
   simp only[Result.andThen_ok]
   rw[run_neq_struct,(hr w).1]
   rfl
  ·exact M4
 ·exact M4
theorem wA{op:UnOp} (h:unA op x k) (hv:ab b₀ β s.gen s.obj w x v) :
  ∃z cv,K z∧(∀w',Ext w w'→(Op.unary op v).run P w'=.ok cv w')∧ab b₀ β s.gen s.obj w z cv:=by
 unfold unA at h
 split at h
 ·simp only[ab,aj] at hv
  obtain rfl:=hv.inv_bool
  exact du h (fun w=>by simp[Op.unary])
 ·simp only[ab,aj] at hv
  obtain rfl:=hv.inv_int
  exact dq h (fun w=>by simp[Op.unary,Op.intArith])
 ·exact M4
theorem qh {a b:D} (ha:gl kd a=true) (hb:gl kd b=true):oh a b=true↔dV a=dV b:=by
 cases kd <;> cases a <;> cases b <;> simp_all[gl,oh,dV]
theorem jA{a:D} (h:gl kd a=true):MapKept.IsKey kd (dV a):=by
 cases kd <;> cases a <;> simp_all[gl,MapKept.IsKey,dV]
theorem bm.key{a:D} (hk:gl kd a=true) (h:bm J w a v):v=dV a:=by
 cases h <;> first|rfl|(cases kd <;> simp[gl] at hk;done)
theorem cI.find {R:C→Value→Prop}{cs:List C}{es:List MapEntry} (h:cI R kd cs es) {k:D} (hk:gl kd k=true) (i:Nat) :
  (Instr.findNow kd (dV k) es i=some none∧mget cs k=none∧∀c v,R c v→∀b,cI R kd (mset cs k c) (es++[{ key:=dV k,val:=v,born:=b }]))∨
  ∃j e c,Instr.findNow kd (dV k) es i=some (some (i+j,e.val))∧es[j]? = some e∧e.key=dV k∧mget cs k=some c∧R c e.val∧∀c' v,R c' v→cI R kd (mset cs k c') (es.modify j fun e=>{ e with key:=dV k,val:=v }):=by
 induction h generalizing i with
 |nil=>exact .inl ⟨rfl,rfl,fun c v hr b=>.cons hk rfl hr .nil⟩
 |cons hk' h1 h2 hr ih=>
   rename_i k' c e cs es
   obtain⟨r,hs,hiff⟩:=MapKept.sameNow_of_keys (jA hk) (jA hk')
   cases r with
   |true=>
     have heq:=hiff.1 rfl
     have hke:oh k' k=true:=(qh hk' hk).2 heq.symm
     refine .inr ⟨0,e,c,by simp[Instr.findNow,h1,hs],rfl,by rw[h1,heq],by simp[mget,hke],h2,fun c' v hr'=>?_⟩
     simp only[mset,hke,A9,List.modify_cons,ite_true]
     exact .cons hk' (by simpa using heq) hr' hr
   |false=>
     have hne:oh k' k=false:=by
      cases hq:oh k' k with
      |false=>rfl
      |true=>have:=hiff.2 ((qh hk' hk).1 hq).symm;cases this
     rcases ih (i+1) with⟨g1,g2,g3⟩|⟨j,e',c',g1,g2,g3,g4,g5,g6⟩
     ·exact .inl ⟨by simp[Instr.findNow,h1,hs,g1],by simp[mget,hne,g2],fun c v hr' b=>by
       simp only[mset,hne,A5]
       exact .cons hk' h1 h2 (g3 c v hr' b)⟩
     ·refine .inr ⟨j+1,e',c',by simp[Instr.findNow,h1,hs,g1];omega,by simpa using g2,g3,by simp[mget,hne,g4],g5,fun c2 v hr'=>?_⟩
      simp only[mset,hne,List.modify_succ_cons]
      exact .cons hk' h1 h2 (g6 c2 v hr')
theorem wB (hT:aI P T){K:D→Prop}{k:Box K} (h:xr (T t) k):∃z,K z∧gv z=true∧(∀w,(zeroValue t).run P w=.ok (dV z) w)∧okD (T t).desc=true:=by
 unfold xr at h
 split at h
 ·rename_i z hz
  have ht:=hT t h.1.1
  obtain⟨i,hi,hs,hb,zv,hzv,hc⟩:=ht.info
  have hp:gv z=true:=by have:=ht.plain;rw[hz] at this;simpa using this
  refine⟨z,h.2,hp,fun w=>?_,h.1.1⟩
  rw[hz] at hc
  have hzv':zv=dV z:=by have:=ht.zone h.1.2 i zv hi hzv;rwa [hz] at this
  simp[zeroValue,typeInfo,hi,hzv,hzv']
 ·exact M4
theorem mm {g:Nat→Nat}{ob:Obs}{z:D} (hK:K (rN ok z c)) (hv:aj b₀ β g ob w (c.getD (.d z)) v) :
  ∃y cv,K y∧(∀w',Ext w w'→(pure (if ok then .tuple #[v,.bool c.isSome] else v):Sem Value).run P w'=.ok cv w')∧ab b₀ β g ob w y cv:=by
 refine⟨_,_,hK,fun w' _=>by rw[Sem.run_pure],?_⟩
 cases ok
 ·simp only[rN,ab];exact hv
 ·simp only[rN,A9,ab,au]
  exact⟨[v,.bool c.isSome],rfl,_,_,rfl,hv,_,_,rfl,by simp only[aj];exact .bool _,rfl⟩
theorem Da {kd:Nat} (h:dt kd=d) {k:D} (hk:gl d k=true):kd<200:=by
 refine Nat.lt_of_not_le fun hc=>?_
 have:dt kd=.invalid:=by
  unfold dt
  split <;> first|omega|rfl
 rw[this] at h
 subst h
 simp[gl] at hk
theorem wD (hT:aI P T){K:List D→Prop}{k:Box K} (h:xt (T t) k):∃zs vs,K zs∧(∀w,(zeroValue t).run P w=.ok (.agg vs) w)∧vs.size=zs.length∧∀(i:Nat) (x:D),zs[i]? = some x→vs[i]? = some (dV x)∧gv x=true:=by
 unfold xt at h
 obtain⟨⟨hok,h2⟩,hK⟩:=h
 have ht:=hT t hok
 obtain⟨i,hi,hs,hb,zv,hzv,hc⟩:=ht.info
 have hag:∃vs,zv=.agg vs:=by
  cases zv with
  |agg vs=>exact⟨vs,rfl⟩
  |_=>exfalso;have:=congrArg List.length hc;simp[Value.cells] at this;omega
 obtain⟨vs,rfl⟩:=hag
 have hcs:vs.toList=(T t).zero.map dV:=by simpa[Value.cells] using hc
 refine⟨_,vs,hK,fun w=>by simp[zeroValue,typeInfo,hi,hzv],by rw[←H9,hcs,b7],fun j x hx=>⟨?_,?_⟩⟩
 ·rw[←C2,hcs,l8,hx];rfl
 ·exact l7.1 ht.plain x (l4 hx)
theorem kH {g:Nat→Nat}{ob:Obs}{z:List D}{vs:Array Value} (hK:K (ol ok z c)) (hs:vs.size=(wl z c).length) (hv:∀(i:Nat) (x:D),(wl z c)[i]? = some x→∃u,vs[i]? = some u∧bm (Imm b₀ β ob w) w x u) :
  ∃y cv,K y∧(∀w',Ext w w'→(pure (if ok then .tuple #[.agg vs,.bool c.isSome] else .agg vs):Sem Value).run P w'=.ok cv w')∧ab b₀ β g ob w y cv:=by
 have hrep:ig b₀ β g ob w ((wl z c).map .d) vs:=by
  refine⟨by rw[hs,b7],fun i c' hc=>?_⟩
  rw[l8] at hc
  cases hq:(wl z c)[i]? with
  |none=>rw[hq] at hc;cases hc
  |some x=>
    rw[hq] at hc
    cases hc
    exact hv i x hq
 refine⟨_,_,hK,fun w' _=>by rw[Sem.run_pure],?_⟩
 cases ok
 ·simp only[ol,ab];exact⟨vs,rfl,hrep⟩
 ·simp only[ol,A9,ab,au]
  exact⟨[.agg vs,.bool c.isSome],rfl,_,_,rfl,⟨vs,rfl,hrep⟩,_,_,rfl,by simp only[aj];exact .bool _,rfl⟩
theorem pN (hT:aI P T) (hr:Rel b₀ N s β a w){x ix:AV}{v vi:Value} (h:nI T t s x ix ok k)
  (hv:ab b₀ β s.gen s.obj w x v) (hi:ab b₀ β s.gen s.obj w ix vi):∃y cv,K y∧(∀w',Ext w w'→(Instr.lookup t v vi ok).run P w'=.ok cv w')∧ab b₀ β s.gen s.obj w y cv:=by
 unfold nI at h
 split at h
 ·rename_i kt et k0 hd
  obtain⟨⟨hok,hkey⟩,h⟩:=h
  have hu:=(hT t Ot).desc
  rw[hd] at hu
  have hk:=(hT kt hok).desc
  simp only[ab,aj] at hi
  obtain rfl:=hi.key hkey
  have hck:∀e w,(Instr.checkKey e 10000 kt (dV k0)).run P w=.ok () w:=fun e w=>MapKept.run_checkKey hk (jA hkey) e 9999
  split at h
  ·obtain⟨z,h,hpz,hzr,_⟩:=wB hT h
   split at h
   ·rename_i id g kd _
    obtain⟨hg,hkd,h⟩:=h
    have hlt:=Da hkd hkey
    obtain⟨cells,ho,hK⟩:=aq h
    simp only[ab,aj] at hv
    obtain⟨ad,hβ,hsp,rfl⟩:=hv.2.2 hg Oi
    have hob:=hr.obj id cells ho
    rw[hβ] at hob
    obtain⟨es,clock,hblk,hm⟩:=(hob.map hsp.1).2.resolve_right (fun h=>hsp.2 h.1)
    rw[vh hlt,show ie kd=dt kd from if_pos hlt,hkd] at hm
    rcases hm.find hkey 0 with⟨g1,g2,_⟩|⟨j,e,c,g1,_,_,g4,g5,_⟩
    ·obtain⟨y,cv,q1,q2,q3⟩:=mm (P:=P) (w:=w) (b₀:=b₀) (β:=β) (g:=s.gen) (ob:=s.obj) hK (v:=dV z) (by rw[g2];simp only[LS,aj];exact .of_plain hpz)
     exact Mv
    ·obtain⟨y,cv,q1,q2,q3⟩:=mm (P:=P) (w:=w) (b₀:=b₀) (β:=β) (g:=s.gen) (ob:=s.obj) hK (v:=e.val) (by rw[g4];simpa using g5)
     refine⟨y,cv,q1,fun w' hw'=>?_,q3⟩
     have q2:=q2 w' hw'
     rw[g4] at q2
     simp only[Sem.run_pure,Result.ok.injEq,LR] at q2
     subst q2
     simp[Instr.lookup,run_underlying hu,MapKept.run_getObj_map (hw'.cells hblk),hck,MapKept.run_findKey hk g1]
   ·simp only[ab,aj] at hv
    cases hv
    obtain⟨y,cv,q1,q2,q3⟩:=mm (P:=P) (w:=w) (b₀:=b₀) (β:=β) (g:=s.gen) (ob:=s.obj) h (v:=dV z) (by simp only[LS,aj];exact .of_plain hpz)
    exact Mu
   ·exact M4
  ·obtain⟨z,zs,h,hzr,hz1,hz2⟩:=wD hT h
   have hz3:∀(i:Nat) (x:D),z[i]? = some x→∃u,zs[i]? = some u∧bm (Imm b₀ β s.obj w) w x u:=fun i x hx=>⟨_,(hz2 i x hx).1,.of_plain (hz2 i x hx).2⟩
   split at h
   ·rename_i id g kd _
    obtain⟨hg,⟨hge,hkd⟩,h⟩:=h
    obtain⟨cells,ho,hK⟩:=aq h
    simp only[ab,aj] at hv
    obtain⟨ad,hβ,hsp,rfl⟩:=hv.2.2 hg Oi
    have hob:=hr.obj id cells ho
    rw[hβ] at hob
    obtain⟨es,clock,hblk,hm⟩:=(hob.map hsp.1).2.resolve_right (fun h=>hsp.2 h.1)
    rw[show ie kd=dt (kd-200) from if_neg a6,hkd] at hm
    rcases hm.find hkey 0 with⟨g1,g2,_⟩|⟨j,e,c,g1,_,_,g4,g5,_⟩
    ·obtain⟨y,cv,q1,q2,q3⟩:=kH (P:=P) (w:=w) (b₀:=b₀) (β:=β) (g:=s.gen) (ob:=s.obj) hK (vs:=zs) (by rw[g2];exact hz1) (by rw[g2];exact hz3)
     exact Mv
    ·unfold gP at g5
     rw[if_neg a6] at g5
     obtain⟨ds,vs,rfl,hval,hs,hrs⟩:=g5
     obtain⟨y,cv,q1,q2,q3⟩:=kH (P:=P) (w:=w) (b₀:=b₀) (β:=β) (g:=s.gen) (ob:=s.obj) hK (vs:=vs) (by rw[g4];exact hs) (by rw[g4];exact hrs)
     refine⟨y,cv,q1,fun w' hw'=>?_,q3⟩
     have q2:=q2 w' hw'
     rw[g4] at q2
     simp only[Sem.run_pure,Result.ok.injEq,LR] at q2
     subst q2
     simp[Instr.lookup,run_underlying hu,MapKept.run_getObj_map (hw'.cells hblk),hck,MapKept.run_findKey hk g1,hval]
   ·simp only[ab,aj] at hv
    cases hv
    obtain⟨y,cv,q1,q2,q3⟩:=kH (P:=P) (w:=w) (b₀:=b₀) (β:=β) (g:=s.gen) (ob:=s.obj) h (vs:=zs) hz1 hz3
    exact Mu
   ·exact M4
 ·exact M4
theorem xO {g:Nat→Nat}{ob:Obs}{p:PC} (hp:wm x=some p) (hv:ab b₀ β g ob w x v):fU b₀ β g ob w p v:=by
 unfold wm at hp
 split at hp
 ·cases hp;simpa only[ab,aj,fU] using hv
 ·cases hp;simpa only[ab,aj,fU] using hv
 ·cases hp
theorem qi {N:Nat}{s:St}{a:Act} (hr:Rel b₀ N s β a w):∀(xs:List Operand) {ps:List PC},jd (xs.map s.ev)=some ps→ps.length=xs.length∧∀(i:Nat) (pc:PC),ps[i]? = some pc→∃x,xs[i]? = some x∧fU b₀ β s.gen s.obj w pc (a.eval x)
 |[],ps,h=>by simp[jd] at h;subst h;exact⟨rfl,fun i pc h=>by simp at h⟩
 |x::xs,ps,h=>by
   simp only[j8,jd] at h
   cases h1:wm (s.ev x) with
   |none=>rw[h1] at h;cases h
   |some p=>
     rw[h1] at h
     cases h2:jd (xs.map s.ev) with
     |none=>rw[h2] at h;cases h
     |some ps'=>
       rw[h2] at h
       simp only[D6,l9] at h
       subst h
       obtain⟨e1,e2⟩:=qi hr xs h2
       refine⟨by simp[e1],fun i pc hi=>?_⟩
       cases i with
       |zero=>simp at hi;subst hi;exact⟨x,rfl,xO h1 (hr.ev x)⟩
       |succ i=>simpa using e2 i pc OU
theorem nC (hr:Rel b₀ N s β a w) {f:FuncId}{first caps:Array Operand} (h:gf f (first.toList.map s.ev) (caps.toList.map s.ev) k) :
  ∃y cv,K y∧(∀w',Ext w w'→(Instr.makeFunc (.func f) (first.map a.eval) (caps.map a.eval)).run P w'=.ok cv w')∧ab b₀ β s.gen s.obj w y cv:=by
 have hcs:∀(xs:Array Operand) {l:List PC},jd (xs.toList.map s.ev)=some l→(xs.map a.eval).size=l.length∧∀(i:Nat) (pc:PC),l[i]? = some pc→∃u,(xs.map a.eval)[i]? = some u∧fU b₀ β s.gen s.obj w pc u:=fun xs l hl=>by
  obtain⟨e1,e2⟩:=qi hr xs.toList hl
  refine⟨by simp[e1],fun i pc hi=>?_⟩
  obtain⟨x,hx,hr'⟩:=e2 i pc hi
  have hx:xs[i]? = some x:=by simpa using hx
  exact⟨a.eval x,by simp[hx],hr'⟩
 unfold gf at h
 split at h
 ·rename_i hf
  obtain⟨hn,h⟩:=h
  obtain⟨l,hl,hK⟩:=aq h
  have hf:first = #[]:=by
   have:=congrArg List.length hf
   exact K1 (by simpa using this)
  subst hf
  refine⟨_,.func (.func f) #[] (caps.map a.eval),hK,fun w' _=>by simp[Instr.makeFunc],?_⟩
  simp only[ab,aj]
  exact⟨_,(qM hn _).symm,hcs caps hl⟩
 ·rename_i x r hf
  obtain⟨hn,h⟩:=h
  obtain⟨l,hl,hK⟩:=aq h
  rw[←hf] at hl
  have hc:caps = #[]:=by
   have:=congrArg List.length hn
   exact K1 (by simpa using this)
  subst hc
  refine⟨_,.func (.func f) (first.map a.eval) #[],hK,fun w' _=>by simp[Instr.makeFunc],?_⟩
  simp only[ab,aj]
  exact⟨_,(xE f _).symm,hcs first hl⟩
theorem dP (h:isStr d=true):d=.string:=by cases d <;> simp_all[isStr]
theorem uc (hT:aI P T){ty:TypeId} (h:qH s (isStr (T t).desc) (cS T t) x k) (hv:ab b₀ β s.gen s.obj w x v) :
  ∃z cv,K z∧(∀w',Ext w w'→(Builtin.len_ #[t] ty #[v]).run P w'=.ok cv w')∧ab b₀ β s.gen s.obj w z cv:=by
 unfold qH at h
 split at h
 ·obtain⟨hsl,h⟩:=h
  obtain⟨e,_,_,hu,_⟩:=cL hT hsl
  simp only[ab,aj] at hv
  obtain rfl:=hv.inv_nsl
  exact Nn
 ·obtain⟨hsl,h⟩:=h
  obtain⟨e,_,_,hu,_⟩:=cL hT hsl
  simp only[ab,aj] at hv
  refine dq h fun w=>?_
  cases hv <;> simp[Builtin.len_,run_underlying hu,goInt]
 ·obtain⟨hsl,h⟩:=h
  have hu:=(hT t (by rw[dP hsl];rfl)).desc
  rw[dP hsl] at hu
  simp only[ab,aj] at hv
  obtain rfl:=hv.inv_str
  exact dq h (fun w=>by simp[Builtin.len_,run_underlying hu,goInt,size_mk])
 ·obtain⟨hsl,hg,ho,h⟩:=h
  obtain⟨e,_,_,hu,_⟩:=cL hT hsl
  simp only[ab] at hv
  obtain⟨a,cap,rfl,_⟩:=(eO hv hg ho).slice
  exact Nn
 ·obtain⟨hsl,h⟩:=h
  obtain⟨e,_,_,hu,_⟩:=cL hT hsl
  simp only[ab,aj] at hv
  obtain⟨a,cap,rfl⟩:=hv
  exact Nn
 ·exact M4
end
end
section
variable {lo hi:Option AV}{lv hv':Option Value}{K:AV→Prop}{k:Box K}
section
variable {P:Program}{T:Nat→TI}{b₀:Bs}{β:Loc}{g:Nat→Nat}{ob:Obs}{w:World}
inductive qV (b₀:Bs) (β:Loc) (g:Nat→Nat) (ob:Obs) (w:World):Option AV→Option Value→Prop where
 |none:qV b₀ β g ob w none none
 |some {x:AV}{v:Value} (h:ab b₀ β g ob w x v):qV b₀ β g ob w (some x) (some v)
theorem run_sliceBound {kd:IntKind}{i:Int}{y:Nat}{c:BoundsCode} (h0:0≤i) (h1:i.toNat≤y):(Instr.sliceBound (.int kd i) y c).run P w=.ok i.toNat w:=by
 have:i≤y:=a6
 simp[Instr.sliceBound,asIntOf,h0,this]
theorem dc {o:Option AV}{ov:Option Value}{els:Nat}{K:Nat→Prop}{k:Box K} (h:ej o els k) (ho:qV b₀ β g ob w o ov) :
  ∃n,K n∧((ov=none∧n=els)∨∃kd i,ov=some (.int kd i)∧0≤i∧n=i.toNat):=by
 unfold ej at h
 split at h
 ·cases ho
  exact⟨_,h,.inl ⟨rfl,rfl⟩⟩
 ·cases ho with
  |some hv=>
    simp only[ab,aj] at hv
    obtain rfl:=hv.inv_int
    exact⟨_,h.2,.inr ⟨_,_,rfl,h.1,rfl⟩⟩
 ·exact M4
theorem bT {b:Bool}{len cap h l:Nat}{ho lo:Option Value}
  (hh:(ho=none∧h=len)∨∃kd i,ho=some (.int kd i)∧0≤i∧h=i.toNat) (hl:(lo=none∧l=0)∨∃kd i,lo=some (.int kd i)∧0≤i∧l=i.toNat)
  (h1:l≤h) (h2:h≤cap):(Instr.sliceBounds b len cap lo ho none).run P w=.ok (l,h,cap) w:=by
 rcases hh with⟨rfl,rfl⟩|⟨kd,i,rfl,hi,rfl⟩ <;> rcases hl with⟨rfl,rfl⟩|⟨kd',i',rfl,hi',rfl⟩ <;>
  simp[Instr.sliceBounds,run_sliceBound, *]
theorem extract_mk (s:List UInt8) (l h:Nat):(⟨s.toArray⟩:ByteArray).extract l h=⟨((s.take h).drop l).toArray⟩:=by
 apply ByteArray.ext
 apply E5
 rw[ByteArray.data_extract]
 simp[J8]
theorem qW (hT:aI P T) {s:St}{t:Nat}{x:AV}{v:Value}
  (h:mh s (isStr (T t).desc) (cS T t) (aS T t).size x lo hi k) (hv:ab b₀ β s.gen s.obj w x v)
  (hlo:qV b₀ β s.gen s.obj w lo lv) (hhi:qV b₀ β s.gen s.obj w hi hv') :
  ∃y cv,K y∧(∀w',Ext w w'→(Instr.sliceAt t v lv hv' none).run P w'=.ok cv w')∧ab b₀ β s.gen s.obj w y cv:=by
 unfold mh at h
 split at h
 ·rename_i bs
  obtain⟨hs,h⟩:=h
  obtain⟨hn,h,hh⟩:=dc h hhi
  obtain⟨ln,⟨h1,h2,hK⟩,hl⟩:=dc h hlo
  have hu:=(hT t (by rw[dP hs];rfl)).desc
  rw[dP hs] at hu
  simp only[ab,aj] at hv
  obtain rfl:=hv.inv_str
  refine ua hK fun w=>?_
  have this:=fun w=>bT (P:=P) (w:=w) (b:=false) (len:=bs.length) (cap:=bs.length) hh hl h1 h2
  simp[Instr.sliceAt,run_underlying hu,Instr.slice,size_mk,this,extract_mk]
 ·rename_i es
  obtain⟨hs,h⟩:=h
  obtain⟨hn,h,hh⟩:=dc h hhi
  obtain⟨ln,⟨h1,h2,hsz,hK⟩,hl⟩:=dc h hlo
  obtain⟨e,he1,he2,hu,hte⟩:=cL hT hs
  rw[he2] at hsz
  simp only[ab,aj] at hv
  have hlen:((es.take hn).drop ln).length=hn-ln:=by simp;omega
  cases hv with
  |@sl0 a cap=>
    have h0:hn=0:=by simpa using h2
    subst h0
    have h0':ln=0:=a6
    subst h0'
    have this:=fun w=>bT (P:=P) (w:=w) (b:=true) (len:=0) (cap:=cap) hh hl h1 (LZ _)
    refine⟨_,.slice a 0 cap,hK,fun w' _=>?_,?_⟩
    ·have ha:a.map (fun x=>x.add 0)=a:=by cases a <;> simp[Addr.add]
     simp[Instr.sliceAt,run_underlying hu,Instr.slice,this,aL hte,ha]
    ·simp only[ab,aj];exact .sl0
  |sl vals hcap hJ hs' hcl hrd=>
    rename_i b off cap sz
    have hb:=fun w=>bT (P:=P) (w:=w) (b:=true) (len:=es.length) (cap:=cap) hh hl h1 a6
    by_cases hc:cap=ln
    ·subst hc
     refine⟨_,.slice (some ⟨b,off,none⟩) (hn-cap) (cap-cap),hK,fun w' _=>by simp[Instr.sliceAt,run_underlying hu,Instr.slice,hb,aL hte],?_⟩
     simp only[ab,aj]
     have hnil:(es.take hn).drop cap=[]:=j5 (by rw[hlen];omega)
     rw[hnil,←hlen,hnil]
     exact MB
    ·refine⟨_,.slice (some ⟨b,off+ln*(T e).size,none⟩) (hn-ln) (cap-ln),hK,fun w' _=>by simp[Instr.sliceAt,run_underlying hu,Instr.slice,hb,aL hte,hc,cq],?_⟩
     simp only[ab,aj]
     rw[←hlen]
     have hget:∀(i:Nat) (y:List D),((es.take hn).drop ln)[i]? = some y→es[ln+i]? = some y:=fun i y hy=>by
      rw[A4,D5] at hy
      split at hy
      ·exact hy
      ·cases hy
     by_cases hne:es=[]
     ·subst hne
      simp only[List.take_nil,List.drop_nil]
      exact MB
     ·have hsz2:(T e).size=sz:=by
       obtain⟨y,hy⟩:=List.exists_mem_of_ne_nil es hne
       rw[←hsz y hy,hs' y hy]
      rw[hsz2]
      refine .sl (fun i j=>vals (ln+i) j) (by rw[hlen];omega) (fun _=>hJ hne) (fun y hy=>hs' y (G4 (H6 hy))) (fun i y hy j z hz=>?_) (fun i y hy j z hz=>hrd _ _ (hget i y hy) j z hz)
      have:=hcl _ _ (hget i y hy) j z hz
      rw[C0] at this
      rwa [←z1] at this
 ·obtain⟨hs,h⟩:=h
  obtain⟨hn,h,hh⟩:=dc h hhi
  obtain⟨ln,⟨rfl,rfl,hK⟩,hl⟩:=dc h hlo
  obtain⟨e,he1,he2,hu,hte⟩:=cL hT hs
  simp only[ab,aj] at hv
  obtain rfl:=hv.inv_nsl
  have this:=fun w=>bT (P:=P) (w:=w) (b:=true) (len:=0) (cap:=0) hh hl (b9 _) (b9 _)
  refine⟨_,.slice none 0 0,hK,fun w' _=>by simp[Instr.sliceAt,run_underlying hu,Instr.slice,this,aL hte],?_⟩
  simp only[ab,aj];exact .nsl
 ·rename_i id g' sz' off len
  obtain⟨hs,hg,ho,h⟩:=h
  obtain⟨hn,h,hh⟩:=dc h hhi
  obtain⟨ln,⟨h1,h2,heq,hK⟩,hl⟩:=dc h hlo
  obtain⟨e,he1,he2,hu,hte⟩:=cL hT hs
  rw[he2] at heq hK
  subst heq
  clear h
  simp only[ab] at hv
  have hat:=eO hv hg ho
  cases hβ:β id with
  |none=>
    rw[hβ] at hat
    obtain⟨rfl,rfl⟩:=hat
    have e1:hn=0:=a6
    have e2:ln=0:=a6
    subst e1;subst e2
    have this:=fun w=>bT (P:=P) (w:=w) (b:=true) (len:=0) (cap:=0) hh hl (b9 _) (b9 _)
    refine⟨_,.slice none 0 0,hK,fun w' _=>by simp[Instr.sliceAt,run_underlying hu,Instr.slice,this,aL hte],?_⟩
    simp only[ab,aj]
    exact⟨rfl,hv.2.1,fun _ _=>by rw[hβ];exact⟨a7,rfl⟩⟩
  |some ad=>
    rw[hβ] at hat
    obtain⟨hsp,hat⟩:=hat
    rcases hat with⟨cap,rfl,hcap,hfit⟩|⟨rfl,o,rfl⟩
    ·have hb:=fun w=>bT (P:=P) (w:=w) (b:=true) (len:=len) (cap:=cap) hh hl h1 a6
     by_cases hc:cap=ln
     ·subst hc
      refine⟨_,.slice (some ⟨ad.block,ad.off+off,none⟩) (hn-cap) (cap-cap),hK,fun w' _=>by simp[Instr.sliceAt,run_underlying hu,Instr.slice,hb,aL hte],?_⟩
      simp only[ab,aj]
      have e1:hn-cap=0:=a6
      refine⟨rfl,hv.2.1,fun _ _=>?_⟩
      rw[hβ,e1,LC]
      exact⟨hsp,.inr ⟨rfl,ad.off+off,rfl⟩⟩
     ·refine⟨_,.slice (some ⟨ad.block,ad.off+off+ln*(T e).size,none⟩) (hn-ln) (cap-ln),hK,fun w' _=>by simp[Instr.sliceAt,run_underlying hu,Instr.slice,hb,aL hte,hc,cq],?_⟩
      simp only[ab,aj]
      refine⟨rfl,hv.2.1,fun _ _=>?_⟩
      rw[hβ]
      refine⟨hsp,.inl ⟨cap-ln,by simp[z1],a6,fun arr el fr hh'=>?_⟩⟩
      have:=hfit arr el fr hh'
      have e3:cap=ln+(cap-ln):=a6
      rw[e3,C0] at this
      omega
    ·have e1:hn=0:=a6
     have e2:ln=0:=a6
     subst e1;subst e2
     have this:=fun w=>bT (P:=P) (w:=w) (b:=true) (len:=0) (cap:=0) hh hl (b9 _) (b9 _)
     refine⟨_,.slice (some ⟨ad.block,o,none⟩) 0 0,hK,fun w' _=>by simp[Instr.sliceAt,run_underlying hu,Instr.slice,this,aL hte],?_⟩
     simp only[ab,aj]
     exact⟨rfl,hv.2.1,fun _ _=>by rw[hβ];exact⟨hsp,.inr ⟨a7,o,rfl⟩⟩⟩
 ·exact M4
theorem nD (hT:aI P T) {s:St} (hO:∀id cs ad,s.obj id=some cs→β id=some ad→ad.spot=none→∀arr el fr,w.heap[ad.block]? = some (.cells arr el fr)→ad.off+cs.length≤arr.size) {t:Nat}{x:AV}{v:Value}
  (h:gX T (T t).desc s x lo hi k) (hv:ab b₀ β s.gen s.obj w x v)
  (hlo:qV b₀ β s.gen s.obj w lo lv) (hhi:qV b₀ β s.gen s.obj w hi hv') :
  ∃y cv,K y∧(∀w',Ext w w'→(Instr.sliceAt t v lv hv' none).run P w'=.ok cv w')∧ab b₀ β s.gen s.obj w y cv:=by
 unfold gX at h
 split at h
 ·rename_i n e hd
  have hu:=(hT t Ot).desc
  rw[hd] at hu
  split at h
  ·rename_i id g off
   split at h
   ·obtain⟨hg,hok,⟨cs,hcs,hle⟩,h⟩:=h
    obtain⟨hn,⟨h2,hK⟩,hh⟩:=dc h hhi
    cases hlo
    have hte:=hT e hok
    simp only[ab,aj] at hv
    obtain⟨ad,hβ,hsp,rfl⟩:=hv.2.2 hg (by rw[hcs];rfl)
    have hb:=fun w=>bT (P:=P) (w:=w) (b:=false) (len:=n) (cap:=n) hh (.inl ⟨rfl,rfl⟩) (LZ _) h2
    refine⟨_,.slice (some ⟨ad.block,ad.off+off,none⟩) hn n,hK,fun w' _=>?_,?_⟩
    ·by_cases hc:n=0
     ·subst hc
      obtain rfl:hn=0:=a6
      simp[Instr.sliceAt,run_underlying hu,Instr.slice,hb,aL hte,Instr.sureAddr]
     ·simp[Instr.sliceAt,run_underlying hu,Instr.slice,hb,aL hte,Instr.sureAddr,hc,cq]
    ·simp only[ab,aj]
     refine⟨rfl,hv.2.1,fun _ _=>?_⟩
     rw[hβ]
     exact⟨hsp,.inl ⟨n,rfl,h2,fun arr el fr hh'=>by have:=hO id cs ad hcs hβ hsp arr el fr hh';omega⟩⟩
   ·exact M4
  ·exact M4
 ·exact M4
end
end
section
theorem setCells_size (b:Nat):∀(vs:List Value) (o:Nat) (w:World),(w.setCells b o vs).heap.size=w.heap.size
 |[],_,_=>rfl
 |v::r,o,w=>by rw[World.setCells,setCells_size b r];simp
theorem jE (b:Nat):∀(vs:List Value) (o:Nat) (w:World),(w.setCells b o vs).os=w.os∧(w.setCells b o vs).output=w.output
 |[],_,_=>⟨rfl,rfl⟩
 |v::r,o,w=>by rw[World.setCells];exact jE b r _ _
theorem heap_setCell (w:World) (b o:Nat) (v:Value) (c:Nat):(w.setCell ⟨b,o,none⟩ v).heap[c]? =
  if c=b then(match w.heap[c]? with|some (.cells arr el fr)=>some (.cells (arr.setIfInBounds o v) el fr)|x=>x) else w.heap[c]?:=by
 simp only[World.setCell]
 by_cases h:c=b
 ·subst h
  simp only[A9]
  rw[J9]
  simp only[A9]
  cases hw:w.heap[c]? with
  |none=>rfl
  |some o'=>cases o' <;> simp
 ·simp only[h,A1]
  rw[J9]
  simp[C5 h]
theorem heap_setCells_other (b:Nat):∀(vs:List Value) (o:Nat) (w:World) (c:Nat),c≠b→(w.setCells b o vs).heap[c]? = w.heap[c]?
 |[],_,_,_,_=>rfl
 |v::r,o,w,c,h=>by rw[World.setCells,heap_setCells_other b r _ _ c h,heap_setCell];simp[h]
theorem eu (b:Nat):∀(vs:List Value) (o:Nat) (w:World) (arr:Array Value) (el:TypeId) (fr:Nat×Nat),w.heap[b]? = some (.cells arr el fr)→
  ∃arr',(w.setCells b o vs).heap[b]? = some (.cells arr' el fr)∧arr'.size=arr.size∧∀j,arr'[j]? = if o≤j∧j<o+vs.length∧j<arr.size then vs[j-o]? else arr[j]?
 |[],o,w,arr,el,fr,h=>⟨arr,h,rfl,fun j=>by rw[if_neg N7]⟩
 |v::r,o,w,arr,el,fr,h=>by
   have h1:(w.setCell ⟨b,o,none⟩ v).heap[b]? = some (.cells (arr.setIfInBounds o v) el fr):=by rw[heap_setCell];simp[h]
   obtain⟨arr',e1,e2,e3⟩:=eu b r (o+1) _ _ el fr h1
   refine⟨arr',e1,by simpa using e2,fun j=>?_⟩
   rw[e3 j]
   simp only[LP,e8]
   by_cases hj:j=o
   ·subst hj
    rw[if_neg a6]
    by_cases hs:j<arr.size
    ·rw[if_pos a6,H4 hs];simp
    ·rw[if_neg a6];simp[hs]
   ·by_cases hc:o+1≤j∧j<o+1+r.length∧j<arr.size
    ·rw[if_pos hc,if_pos a6]
     have:j-o=(j-(o+1))+1:=a6
     rw[this,s8]
    ·rw[if_neg hc,if_neg a6,G5 (C5 hj)]
theorem iQ:∀(cs:List C) (off:Nat) (cells:List C),(setAt cells off cs).length=cells.length
 |[],_,_=>rfl
 |c::cs,off,cells=>by rw[setAt,iQ cs];simp
theorem mr:∀(cs:List C) (off:Nat) (cells:List C) (j:Nat),(setAt cells off cs)[j]? = if off≤j∧j<off+cs.length∧j<cells.length then cs[j-off]? else cells[j]?
 |[],off,cells,j=>by rw[setAt,if_neg N7]
 |c::cs,off,cells,j=>by
   rw[setAt,mr cs]
   simp only[LW,e8]
   by_cases hj:j=off
   ·subst hj
    rw[if_neg a6]
    by_cases hs:j<cells.length
    ·rw[if_pos a6];simp[hs]
    ·rw[if_neg a6];simp[hs]
   ·by_cases hc:off+1≤j∧j<off+1+cs.length∧j<cells.length
    ·rw[if_pos hc,if_pos a6]
     have:j-off=(j-(off+1))+1:=a6
     rw[this,s8]
    ·rw[if_neg hc,if_neg a6,List.getElem?_set_ne (C5 hj)]
variable {s:St}{a:Act}{N:Nat}{arr:Array Value}{el:TypeId}{t:Nat}{K:St→Prop}{cs:List C}{v vi u:Value}{k:Box K}
section
variable {P:Program}{T:Nat→TI}{b₀:Bs}{β:Loc}{w:World}
theorem ab.cells {g:Nat→Nat}{ob:Obs}{x:AV}{v:Value}{cs:List C} (hx:cellsOf x=some cs) (hv:ab b₀ β g ob w x v) :
  ∃vs:List Value,v.cells=vs.toArray∧vs.length=cs.length∧(∀(j:Nat) (c:C),cs[j]? = some c→∃u,vs[j]? = some u∧aj b₀ β g ob w c u)∧∀u∈vs,u.oneCell'=true:=by
 cases x with
 |one c=>
   simp only[cellsOf,l9] at hx
   subst hx
   simp only[ab] at hv
   have h1:=hv.one
   refine⟨[v],by cases v <;> first|rfl|(simp[Value.oneCell'] at h1),rfl,fun j c' hc=>?_,fun u hu=>by simpa using(C8.1 hu▸h1)⟩
   cases j with
   |zero=>simp at hc;subst hc;exact⟨v,rfl,hv⟩
   |succ j=>simp at hc
 |agg cs'=>
   simp only[cellsOf,l9] at hx
   subst hx
   simp only[ab] at hv
   obtain⟨vs,rfl,h1,h2⟩:=hv
   refine⟨vs.toList,by simp[Value.cells],by simpa using h1,fun j c hc=>by simpa using h2 j c hc,fun u hu=>?_⟩
   obtain⟨i,hi⟩:=B4 hu
   have hlt:i<cs'.length:=by
    have:=(j0.1 hi).1
    simp at this;omega
   obtain⟨u',hu',hr⟩:=h2 i _ (p7 hlt)
   have:u'=u:=by simpa[hu'] using hi
   subst this
   exact hr.one
 |tup=>simp[cellsOf] at hx
 |junk=>simp[cellsOf] at hx
 |exact=>simp[cellsOf] at hx
theorem mu{lo hi b j:Nat} (h:w.heap[b]? = some (.cells arr el (lo,hi))) (hf:hi≤lo∨arr.size≤lo) (hj:j<arr.size) :
  w.frozen? ⟨b,j,none⟩=false:=by
 simp only[World.frozen?,h,Bool.and_eq_false_iff,decide_eq_false_iff_not]
 omega
theorem jj{ti:TI} (ht:lm P t ti) {b o:Nat}{v:Value}{vs:List Value} (hv:v.cells=vs.toArray) (hl:vs.length=ti.size) (h1:∀u∈vs,u.oneCell'=true)
{lo hi:Nat} (hb:w.heap[b]? = some (.cells arr el (lo,hi))) (hf:hi≤lo∨arr.size≤lo) (hfit:o+vs.length≤arr.size) :
  (Instr.storeAt t (.pointer (some ⟨b,o,none⟩)) v).run P w=.ok () (w.setCells b o vs):=by
 have:=run_storeCells_cells (P:=P) b o vs 0 w (fun j hj=>by
   rw[ct hb,o9 a6];rfl) (fun j hj=>mu hb hf a6) h1
 simp only[G3] at this
 simp[Instr.storeAt,Instr.sureAddr,storeVar,aL ht,hv,hl,this]
theorem lu (hT:aI P T) (hr:Rel b₀ N s β a w){x y:AV}{v u:Value} (h:kC (T t) s x y k)
  (hv:ab b₀ β s.gen s.obj w x v) (hu:ab b₀ β s.gen s.obj w y u) :
  ∃s' w',K s'∧(Instr.storeAt t v u).run P w=.ok () w'∧Rel b₀ N s' β a w'∧Tr b₀ β s w β s' w':=by
 unfold kC at h
 split at h
 ·rename_i id g off
  obtain⟨hok,hg,h⟩:=h
  obtain⟨cs,hcs,hsz,h⟩:=aq h
  obtain⟨cells,ho,hfit,hK⟩:=aq h
  have ht:=hT t hok
  simp only[ab,aj] at hv
  obtain⟨ad,hβ,hsp,rfl⟩:=hv.2.2 hg Oi
  have hob:=hr.obj id cells ho
  rw[hβ] at hob
  obtain⟨hB,arr,el,lo,hi,hblk,hfr,hlen,hcells⟩:=hob.cells hsp
  obtain⟨vs,e1,e2,e3,e4⟩:=ab.cells hcs hu
  have hw:=jj (w:=w) ht (b:=ad.block) (o:=ad.off+off) e1 (by rw[e2,hsz]) e4 hblk hfr.1 a6
  obtain⟨arr',f1,f2,f3⟩:=eu ad.block vs (ad.off+off) w arr el (lo,hi) hblk
  have hsome:∀i,(upd s.obj id (some (setAt cells off cs)) i).isSome=(s.obj i).isSome:=fun i=>by
   simp only[upd]
   split
   ·rename_i he;rw[he,ho];rfl
   ·rfl
  have hkeep:dO b₀ β s.gen s.obj w β s.gen (upd s.obj id (some (setAt cells off cs))) (w.setCells ad.block (ad.off+off) vs):=by
   refine⟨fun b hb=>?_,fun _=>b9 _,fun i _ hi'=>?_⟩
   ·have hne:b≠ad.block:=fun he=>hb.2.2 id ad Oi hβ he.symm
    refine⟨⟨by rw[setCells_size];exact hb.1,hb.2.1,fun i a' hi'=>hb.2.2 i a' (by rw[←hsome i];exact hi')⟩,heap_setCells_other _ _ _ _ _ hne⟩
   ·rw[hsome i] at hi'
    refine⟨hi',rfl,fun a' ha' arr1 el1 fr1 h1=>?_⟩
    by_cases hb:a'.block=ad.block
    ·rw[hb] at h1 ⊢
     rw[f1] at h1
     cases h1
     exact⟨arr,el,(lo,hi),hblk,a6⟩
    ·rw[heap_setCells_other _ _ _ _ _ hb] at h1
     exact NM
  refine⟨_,_,hK,hw,⟨hr.defers,hr.size,fun i=>ab.keep hkeep _ (hr.f i),fun i cells' hc'=>?_,fun i i' a1 a2 h1 h2=>hr.inj i i' a1 a2 (by rw[←hsome i];exact h1) (by rw[←hsome i'];exact h2),by rw[setCells_size];exact hr.base⟩,
   by rw[setCells_size];exact b9 _,fun b hb=>heap_setCells_other _ _ _ _ _ a6,hkeep,jE _ _ _ _⟩
  by_cases hid:i=id
  ·subst hid
   simp only[upd,A9,l9] at hc'
   subst hc'
   rw[hβ]
   refine .ofCells hsp ⟨hB,arr',el,lo,hi,f1,by rw[f2];exact hfr,by rw[iQ,f2];exact hlen,fun j c hc=>?_⟩
   rw[mr] at hc
   rw[f3]
   split at hc
   ·rename_i hin
    obtain⟨u',hu',hr'⟩:=e3 _ c hc
    refine⟨u',?_,hr'.keep hkeep⟩
    rw[if_pos a6,show ad.off+j-(ad.off+off)=j-off by omega]
    exact hu'
   ·rename_i hin
    obtain⟨u',hu',hr'⟩:=hcells j c hc
    have hjl:j<cells.length:=(j0.1 hc).1
    refine⟨u',?_,hr'.keep hkeep⟩
    rw[if_neg a6]
    exact hu'
  ·have hc'':s.obj i=some cells':=by simpa[upd,hid] using hc'
   refine(hr.obj i cells' hc'').keep hkeep (fun a' ha'=>heap_setCells_other _ _ _ _ _ (fun hb=>hid (hr.inj i id a' ad (by simp[hc'']) Oi ha' hβ hb)))
 ·exact M4
theorem Rel.newAny {N c:Nat} (hr:Rel b₀ N s β a w) (d:Nat) {w':World}{o:Obj}{ad:Addr} (had:ad.block=w.heap.size) (hw:w'.heap=w.heap.push o) (hos:w'.os=w.os∧w'.output=w.output)
  (hobj:dO b₀ β s.gen s.obj w (upd β d (some ad)) (s.newC c d cs).gen (s.newC c d cs).obj w'→cw b₀ (upd β d (some ad)) (s.newC c d cs).gen (s.newC c d cs).obj w' (nxC c (s.gen d)) cs (some ad)) :
  Rel b₀ N (s.newC c d cs) (upd β d (some ad)) a w'∧Tr b₀ β s w (upd β d (some ad)) (s.newC c d cs) w':=by
 have hold:∀b,b<w.heap.size→w'.heap[b]? = w.heap[b]?:=fun b hb=>by rw[hw,Lz,if_neg a6]
 have hkeep:dO b₀ β s.gen s.obj w (upd β d (some ad)) (s.newC c d cs).gen (s.newC c d cs).obj w':=by
  refine⟨fun b hb=>⟨⟨by rw[hw];simp;have:=hb.1;omega,hb.2.1,fun i a' hi hβ'=>?_⟩,hold b hb.1⟩,fun i=>?_,fun i hg hi=>?_⟩
  ·simp only[St.newC,upd] at hi hβ'
   split at hβ'
   ·cases hβ';have:=hb.1;omega
   ·rename_i hne
    simp only[hne,A1] at hi
    exact hb.2.2 i a' hi hβ'
  ·exact MW
  ·simp only[St.newC,upd] at hg hi ⊢
   by_cases hne:i=d
   ·subst hne;simp at hg;exact absurd hg (tQ _ _)
   ·simp only[hne,A1] at hi ⊢
    refine⟨hi,trivial,fun a' ha' arr1 el1 fr1 h1=>?_⟩
    have hlt:a'.block<w.heap.size:=by
     exact NB
    rw[hold _ hlt] at h1
    exact NM
 refine⟨⟨hr.defers,hr.size,fun i=>ab.keep hkeep _ (hr.f i),fun i cells' hc'=>?_,fun i i' a1 a2 h1 h2 hb1 hb2 hb=>?_,?_⟩,?_,?_,hkeep,hos⟩
 ·simp only[St.newC,upd] at hc' ⊢
  by_cases hid:i=d
  ·subst hid
   simp only[A9,l9] at hc' ⊢
   subst hc'
   exact hobj hkeep
  ·simp only[hid,A1] at hc' ⊢
   refine(hr.obj i cells' hc').keep hkeep (fun a' ha'=>hold _ ?_)
   have:=hr.obj i cells' hc'
   rw[ha'] at this
   exact this.block.2
 ·have hlt:∀(i:Nat) (a':Addr),(s.obj i).isSome=true→β i=some a'→a'.block<w.heap.size:=fun i a' hi ha'=>by
   exact NB
  simp only[St.newC,upd] at h1 h2 hb1 hb2
  by_cases hi:i=d <;> by_cases hi':i'=d
  ·rw[hi,hi']
  ·simp only[hi,hi',A9,A1] at h1 h2 hb1 hb2
   cases hb1
   have:=hlt i' a2 h2 hb2
   omega
  ·simp only[hi,hi',A9,A1] at h1 h2 hb1 hb2
   cases hb2
   have:=hlt i a1 h1 hb1
   omega
  ·simp only[hi,hi',A1] at h1 h2 hb1 hb2
   exact hr.inj i i' a1 a2 h1 h2 hb1 hb2 hb
 ·rw[hw];simp;have:=hr.base;omega
 ·rw[hw];simp
 ·intro b hb;exact hold b (by have:=hr.base;omega)
theorem Rel.new (c:Nat) (hr:Rel b₀ N s β a w) (d:Nat) {w':World} (hw:w'.heap=w.heap.push (.cells arr el (0,0))) (hos:w'.os=w.os∧w'.output=w.output) (hlen:cs.length≤arr.size)
  (hel:c≠0→c<1000000→el+1=c) (hcells:∀(j:Nat) c,cs[j]? = some c→∃v,arr[j]? = some v∧aj b₀ β s.gen s.obj w c v) :
  Rel b₀ N (s.newC c d cs) (upd β d (some ⟨w.heap.size,0,none⟩)) a w'∧Tr b₀ β s w (upd β d (some ⟨w.heap.size,0,none⟩)) (s.newC c d cs) w':=
 hr.newAny d rfl hw hos fun hkeep=>.ofCells rfl ⟨hr.base,arr,el,0,0,by rw[hw];simp,⟨.inl (b9 _),fun h=>⟨by rw[eK] at h ⊢;split at h <;> rename_i hc <;> simp_all,rfl⟩⟩,by simpa using hlen,fun j c hc=>
  let ⟨v,hv,hrc⟩:=hcells j c hc
  ⟨v,by simpa using hv,hrc.keep hkeep⟩⟩
theorem uj (d:TypeDesc):kZ d≤9:=by unfold kZ;split <;> simp
theorem oJ (hr:Rel b₀ N s β a w) {t i d:Nat} (hd:d<N) (h:lf T t i d s k) :
  ∃s' β' w' cv,K s'∧(Instr.makeMap t none).run P w=.ok cv w'∧Rel b₀ N s' β' (a.put (some d) cv) w'∧Tr b₀ β s w β' s' w':=by
 unfold lf at h
 split at h
 ·rename_i kt et hdsc
  obtain⟨hkd,hK⟩:=h
  obtain⟨r1,r2⟩:=hr.newAny (c:=0) i (w':=w.alloc (.map #[] 0)) (o:=.map #[] 0) (ad:=⟨w.heap.size,0,some (xq (db (T et).desc) (kZ (T kt).desc))⟩) (cs:=[]) rfl rfl ⟨rfl,rfl⟩
   (fun hkeep=>.ofMap rfl ⟨hr.base,.inl ⟨#[],0,(MapKept.heap_alloc w _).1,.nil⟩⟩)
  refine⟨_,_,_,.map (some w.heap.size),hK,by simp[Instr.makeMap],r1.put (fun d' hd'=>by cases hd';exact hd) ?_,r2.trans (Tr.same (St.put_gen _ _ _) (St.put_obj _ _ _) rfl)⟩
  simp only[ab,aj]
  exact⟨rfl,by simp[St.newC,upd],fun _ _=>⟨_,by simp[upd];rfl,⟨rfl,by have:=uj (T kt).desc;unfold xq;split <;> omega⟩,rfl⟩⟩
 ·exact M4
theorem lx (hT:aI P T) (hr:Rel b₀ N s β a w) {t kt et id g kd:Nat}{k0:D}{c:C}{cells:List C} (hd:(T t).desc=.map kt et) (hok:okD (T kt).desc=true) (hkey:gl (T kt).desc k0=true) (hg:s.gen id=g) (hkd:ie kd=(T kt).desc) (ho:s.obj id=some cells)
  (hv:ab b₀ β s.gen s.obj w (.one (.mp id g kd)) v) (hi:ab b₀ β s.gen s.obj w (.one (.d k0)) vi) (hu:gP b₀ β s.gen s.obj w kd c u) :
  ∃w',(Instr.mapUpdate t v vi u).run P w=.ok () w'∧Rel b₀ N { s with obj:=upd s.obj id (some (mset cells k0 c))} β a w'∧Tr b₀ β s w β { s with obj:=upd s.obj id (some (mset cells k0 c))} w':=by
  have hty:=(hT t Ot).desc
  rw[hd] at hty
  have hk:=(hT kt hok).desc
  simp only[ab,aj] at hi hv
  obtain rfl:=hi.key hkey
  have hck:∀e,(Instr.checkKey e 10000 kt (dV k0)).run P w=.ok () w:=fun e=>MapKept.run_checkKey hk (jA hkey) e 9999
  obtain⟨ad,hβ,hsp,rfl⟩:=hv.2.2 hg Oi
  have hob:=hr.obj id cells ho
  rw[hβ] at hob
  have hB:=(hob.map hsp.1).1
  obtain⟨es,clock,hblk,hm⟩:=(hob.map hsp.1).2.resolve_right (fun h=>hsp.2 h.1)
  rw[hkd] at hm
  have hlt:=(s9.1 hblk).1
  obtain⟨es',clock',hrun,hm'⟩:∃es' clock',(Instr.mapUpdate t (.map (some ad.block)) (dV k0) u).run P w=.ok () { w with heap:=w.heap.setIfInBounds ad.block (.map es' clock')}∧
    ∀R:C→Value→Prop,(∀c v,gP b₀ β s.gen s.obj w kd c v→R c v)→cI R (T kt).desc (mset cells k0 c) es'.toList:=by
   rcases hm.find hkey 0 with⟨g1,g2,g3⟩|⟨j,e,c',g1,g2,g3,_,_,g6⟩
   ·refine⟨es.push { key:=dV k0,val:=u,born:=clock },clock+1,?_,fun R hR=>?_⟩
    ·simp[Instr.mapUpdate,run_underlying hty,MapKept.run_getObj_map hblk,hck,MapKept.run_findKey hk g1,MapKept.run_setObj_map _ hblk]
    ·have:=(g3 c u hu clock).mono hR
     simpa using this
   ·refine⟨es.modify j fun e=>{ e with key:=dV k0,val:=u },clock,?_,fun R hR=>?_⟩
    ·have hj:es[j]? = some e:=by simpa using g2
     simp[Instr.mapUpdate,run_underlying hty,MapKept.run_getObj_map hblk,hck,MapKept.run_findKey hk g1,hj,g3,MapKept.run_keyThatStays (jA hkey),MapKept.run_setObj_map _ hblk]
    ·have:=(g6 c u hu).mono hR
     simpa using this
  have hother:∀b,b≠ad.block→(w.heap.setIfInBounds ad.block (.map es' clock'))[b]? = w.heap[b]?:=fun b hb=>by simp[C5 hb]
  have hsome:∀i,(upd s.obj id (some (mset cells k0 c)) i).isSome=(s.obj i).isSome:=fun i=>by
   simp only[upd]
   split
   ·rename_i he;rw[he,ho];rfl
   ·rfl
  have hkeep:dO b₀ β s.gen s.obj w β s.gen (upd s.obj id (some (mset cells k0 c))) { w with heap:=w.heap.setIfInBounds ad.block (.map es' clock')}:=by
   refine⟨fun b hb=>?_,fun _=>b9 _,fun i _ hi'=>?_⟩
   ·have hne:b≠ad.block:=fun he=>hb.2.2 id ad Oi hβ he.symm
    exact⟨⟨by simpa using hb.1,hb.2.1,fun i a' hi'=>hb.2.2 i a' (by rw[←hsome i];exact hi')⟩,hother b hne⟩
   ·rw[hsome i] at hi'
    refine⟨hi',rfl,fun a' ha' arr1 el1 fr1 h1=>?_⟩
    by_cases hb:a'.block=ad.block
    ·rw[hb] at h1
     simp[hlt] at h1
    ·simp only[hother _ hb] at h1
     exact NM
  refine⟨_,hrun,⟨hr.defers,hr.size,fun i=>ab.keep hkeep _ (hr.f i),fun i cells' hc'=>?_,fun i i' a1 a2 h1 h2=>hr.inj i i' a1 a2 (by rw[←hsome i];exact h1) (by rw[←hsome i'];exact h2),by simpa using hr.base⟩,
   by simp,fun b hb=>hother b a6,hkeep,rfl,rfl⟩
  by_cases hid:i=id
  ·subst hid
   simp only[upd,A9,l9] at hc'
   subst hc'
   rw[hβ]
   refine .ofMap hsp.1 ⟨hB,.inl ⟨es',clock',by simp[hlt],?_⟩⟩
   rw[hkd]
   exact hm' _ (fun _ _=>gP.keep hkeep)
  ·have hc'':s.obj i=some cells':=by simpa[upd,hid] using hc'
   exact(hr.obj i cells' hc'').keep hkeep (fun a' ha'=>hother _ (fun hb=>hid (hr.inj i id a' ad (by simp[hc'']) Oi ha' hβ hb)))
theorem ql:∀{cs:List C}{ds:List D},datas cs=some ds→cs=ds.map .d
 |[],ds,h=>by simp only[datas,l9] at h;subst h;rfl
 |.d x::r,ds,h=>by
   simp only[datas] at h
   cases hq:datas r with
   |none=>rw[hq] at h;cases h
   |some l=>
     rw[hq] at h
     simp only[r0,l9] at h
     subst h
     rw[ql hq];rfl
theorem mv (hT:aI P T) (hr:Rel b₀ N s β a w){m ix x:AV} (h:iG T t s m ix x k)
  (hv:ab b₀ β s.gen s.obj w m v) (hi:ab b₀ β s.gen s.obj w ix vi) (hu:ab b₀ β s.gen s.obj w x u) :
  ∃s' w',K s'∧(Instr.mapUpdate t v vi u).run P w=.ok () w'∧Rel b₀ N s' β a w'∧Tr b₀ β s w β s' w':=by
 unfold iG at h
 split at h
 ·rename_i kt et k0 id g kd c hd
  obtain⟨⟨hok,hkey⟩,hg,hkd,h⟩:=h
  obtain⟨cells,ho,hK⟩:=aq h
  have hlt:=Da hkd hkey
  simp only[ab] at hu
  obtain⟨w',h1,h2,h3⟩:=lx hT hr hd hok hkey hg (by rw[show ie kd=dt kd from if_pos hlt];exact hkd) ho hv hi (by rw[vh hlt];exact hu)
  exact⟨_,w',hK,h1,h2,h3⟩
 ·rename_i kt et k0 id g kd cs hd
  obtain⟨⟨hok,hkey⟩,hg,⟨hge,hkd⟩,h⟩:=h
  obtain⟨ds,hds,h⟩:=aq h
  obtain⟨cells,ho,hK⟩:=aq h
  have hcs:=ql hds
  subst hcs
  simp only[ab] at hu
  obtain⟨vs,rfl,hs,hu⟩:=hu
  obtain⟨w',h1,h2,h3⟩:=lx (c:=.d (.iptr ds)) (u:=.agg vs) hT hr hd hok hkey hg (by rw[show ie kd=dt (kd-200) from if_neg a6];exact hkd) ho hv hi (by
   unfold gP
   rw[if_neg a6]
   refine⟨ds,vs,rfl,rfl,by rw[hs,b7],fun i x hx=>?_⟩
   exact hu i (.d x) (by rw[l8,hx];rfl))
  exact⟨_,w',hK,h1,h2,h3⟩
 ·exact M4
end
end
section
theorem qm (n:Nat):∀k c,Builtin.growBy n k c≤max c (n+(n+768)/4)
 |0,c=>by simp[Builtin.growBy];omega
 |k+1,c=>by
   simp only[Builtin.growBy]
   split
   ·omega
   ·have:=qm n k (c+(c+768)/4)
    omega
theorem nextslicecap_le (n c:Nat) (h:c<n):Builtin.nextslicecap n c≤2*n+1024:=by
 unfold Builtin.nextslicecap
 split
 ·omega
 ·split
  ·omega
  ·have:=qm n 4 c
   omega
theorem gF {α:Type}{sz:Nat}:∀(es:List (List α)) (_:∀e∈es,e.length=sz) (m:Nat) (c:α),es.flatten[m]? = some c→∃i e j,es[i]? = some e∧e[j]? = some c∧m=i*sz+j
 |[],_,m,c,h=>by simp at h
 |e::es,hs,m,c,h=>by
   rw[A6,E8] at h
   have he:=hs e a7
   split at h
   ·exact⟨0,e,m,rfl,h,a7⟩
   ·rename_i hm
    obtain⟨i,e',j,h1,h2,h3⟩:=gF es (fun e' h'=>hs e' (by simp[h'])) _ c h
    exact⟨i+1,e',j,by simpa using h1,h2,by rw[C0];omega⟩
theorem jF {α:Type}{sz:Nat}:∀(es:List (List α)) (_:∀e∈es,e.length=sz),es.flatten.length=es.length*sz
 |[],_=>by simp
 |e::es,hs=>by
   rw[A6,c9,jF es (fun e' h'=>hs e' (by simp[h'])),hs e a7,e8,C0];omega
variable {s:St}{N:Nat}{a:Act}{v:Value}{ti:TI}{cs cs':List C}{K:Nat→List C→Prop}{t tx e:Nat}{k:Box K}
section
variable {P:Program}{T:Nat→TI}{b₀:Bs}{β:Loc}{w:World}
def aP (b₀:Bs) (β:Loc) (s:St) (w:World) (cs:List C) (vs:List Value):Prop:=
 vs.length=cs.length∧∀(j:Nat) (c:C),cs[j]? = some c→∃u,vs[j]? = some u∧aj b₀ β s.gen s.obj w c u
theorem aP.one {s:St}{cs:List C}{vs:List Value} (h:aP b₀ β s w cs vs):∀u∈vs,u.oneCell'=true:=fun u hu=>by
 obtain⟨i,hi⟩:=B4 hu
 have hlt:i<cs.length:=by rw[←h.1];exact(j0.1 hi).1
 obtain⟨u',hu',hr⟩:=h.2 i _ (p7 hlt)
 have:u'=u:=by simpa[hu'] using hi
 exact this▸hr.one
theorem aP.append{vs vs':List Value} (h:aP b₀ β s w cs vs) (h':aP b₀ β s w cs' vs'):aP b₀ β s w (cs++cs') (vs++vs'):=by
 refine⟨by simp[h.1,h'.1],fun j c hc=>?_⟩
 rw[E8] at hc ⊢
 rw[h.1]
 split at hc
 ·rename_i hj;rw[if_pos hj];exact h.2 j c hc
 ·rename_i hj;rw[if_neg hj];exact h'.2 _ c hc
theorem ju.spot {sz off len:Nat}{v:Value}{x:Option Addr} (h:ju w sz off len v x):∀ad,x=some ad→ad.spot=none:=fun ad hx=>by subst hx;exact h.1
theorem mw (hr:Rel b₀ N s β a w) {id off n:Nat}{cells:List C} (hspot:∀ad,β id=some ad→ad.spot=none) (ho:s.obj id=some cells) (hfit:off+n≤cells.length) :
  (∃ad,β id=some ad∧∃vs,aP b₀ β s w ((cells.drop off).take n) vs∧vs.length=n∧∀(j:Nat) (u:Value),vs[j]? = some u→w.cell? ⟨ad.block,ad.off+off+j,none⟩=some u)∨(β id=none∧cells=[]):=by
 have hob:=hr.obj id cells ho
 cases hβ:β id with
 |none=>rw[hβ] at hob;exact .inr ⟨rfl,hob⟩
 |some ad=>
   rw[hβ] at hob
   obtain⟨_,arr,el,lo,hi,hblk,_,hlen,hcells⟩:=hob.cells (hspot ad hβ)
   obtain⟨vs,e1,e2,e3⟩:=gg (aj b₀ β s.gen s.obj w) (fun j=>arr[ad.off+(off+j)]?) ((cells.drop off).take n) (fun j c hc=>by
     rw[D5] at hc
     split at hc
     ·rw[A4] at hc;exact hcells (off+j) c hc
     ·cases hc)
   refine .inl ⟨ad,rfl,vs,⟨e1,e3⟩,by rw[e1];simp;omega,fun j u hu=>?_⟩
   rw[ct hblk,z1];exact e2 j u hu
theorem jG (hT:aI P T) (hr:Rel b₀ N s β a w) {tx sz:Nat}{y:AV}{u:Value}
  (h:contents s (isStr (T tx).desc) (cS T tx) sz y k) (hu:ab b₀ β s.gen s.obj w y u) :
  ∃n cs news,K n cs∧Src P sz tx u n news w∧aP b₀ β s w cs news:=by
 unfold contents at h
 split at h
 ·obtain⟨hsl,h⟩:=h
  obtain⟨e,_,_,hty,_⟩:=cL hT hsl
  simp only[ab,aj] at hu
  obtain rfl:=hu.inv_nsl
  exact⟨0,[],[],h,Src.ofNil w hty 0,rfl,fun _ _ hc=>by simp at hc⟩
 ·rename_i es
  obtain⟨hsl,hsz,h⟩:=h
  obtain⟨e,_,_,hty,_⟩:=cL hT hsl
  simp only[ab,aj] at hu
  cases hu with
  |sl0=>
    rename_i a cap
    refine⟨0,[],[],by simpa using h,?_,rfl,fun _ _ hc=>by simp at hc⟩
    cases a with
    |none=>exact Src.ofNil w hty cap
    |some a=>exact Src.ofSlice w hty a 0 cap [] a7 (fun _ _ h=>by simp at h) (fun _ h=>by cases h)
  |sl vals hcap hJ hs hcl hrd=>
    rename_i b off cap sz'
    obtain⟨vs,e1,e2,e3⟩:=gg (fun(c:D) v=>aj b₀ β s.gen s.obj w (.d c) v) (fun j=>w.cell? ⟨b,off+j,none⟩) es.flatten (fun m c hc=>by
     obtain⟨i,e',j,h1,h2,rfl⟩:=gF es hs m c hc
     refine⟨vals i j,?_,hrd i e' h1 j c h2⟩
     rw[←z1];exact hcl i e' h1 j c h2)
    have hl:vs.length=es.length*sz:=by rw[e1,jF es hsz]
    have hca:aP b₀ β s w (es.flatten.map .d) vs:=by
     refine⟨by rw[b7,e1],fun j c hc=>?_⟩
     rw[l8] at hc
     cases hq:es.flatten[j]? with
     |none=>rw[hq] at hc;cases hc
     |some x=>
       exact NJ
    exact⟨_,_,vs,h,Src.ofSlice w hty ⟨b,off,none⟩ es.length cap vs hl (fun j v hv=>by rw[cq];exact e2 j v hv) hca.one,hca⟩
 ·rename_i bs
  obtain⟨hst,rfl,h⟩:=h
  have hty:=(hT tx (by rw[dP hst];rfl)).desc
  rw[dP hst] at hty
  simp only[ab,aj] at hu
  obtain rfl:=hu.inv_str
  have:=Src.ofString (P:=P) w hty ⟨bs.toArray⟩
  rw[size_mk] at this
  refine⟨_,_,_,h,this,by simp[byteCells],fun j c hc=>?_⟩
  rw[l8] at hc
  cases hq:bs[j]? with
  |none=>rw[hq] at hc;cases hc
  |some x=>
    rw[hq] at hc
    simp only[r0,l9] at hc
    subst hc
    refine⟨.int .u8 x.toNat,by simp[byteCells,hq],?_⟩
    simp only[aj,gU];exact .int _ _
 ·rename_i id g' sz' off len
  obtain⟨hsl,hg,rfl,h⟩:=h
  obtain⟨e,_,_,hty,_⟩:=cL hT hsl
  obtain⟨cells,ho,hfit,hK⟩:=aq h
  simp only[ab] at hu
  have hat:=eO hu hg Oi
  rcases mw hr (hat.spot) ho hfit with⟨ad,hβ,vs,hca,hl,hcell⟩|⟨hβ,rfl⟩
  ·rw[hβ] at hat
   rcases hat.2 with⟨cap,rfl,_,_⟩|⟨rfl,o,rfl⟩
   ·exact⟨_,_,vs,hK,Src.ofSlice w hty _ len cap vs hl (fun j v hv=>by rw[cq];exact hcell j v hv) hca.one,hca⟩
   ·refine⟨_,_,vs,hK,?_,hca⟩
    have:vs=[]:=j5 OF
    subst this
    exact Src.ofSlice w hty _ 0 0 [] a7 (fun j v hv=>by simp at hv) (fun _ h=>by cases h)
  ·rw[hβ] at hat
   obtain⟨rfl,rfl⟩:=hat
   exact⟨_,_,[],hK,Src.ofNil w hty 0,a7,fun j c hc=>by simp at hc⟩
 ·exact M4
theorem se (hT:aI P T) (hr:Rel b₀ N s β a w) {y:AV}{u:Value} (h:contents s false true 1 y k) (hu:ab b₀ β s.gen s.obj w y u) :
  ∃n cs news,K n cs∧aP b₀ β s w cs news∧news.length=n∧((∃l c,u=.slice none l c∧n=0)∨∃ad cap,u=.slice (some ad) n cap∧∀(j:Nat) v,news[j]? = some v→w.cell? (ad.add j)=some v):=by
 unfold contents at h
 split at h
 ·obtain⟨_,h⟩:=h
  simp only[ab,aj] at hu
  obtain rfl:=hu.inv_nsl
  exact⟨0,[],[],h,⟨rfl,fun _ _ hc=>by simp at hc⟩,rfl,.inl ⟨_,_,rfl,rfl⟩⟩
 ·rename_i es
  obtain⟨_,hsz,h⟩:=h
  simp only[ab,aj] at hu
  cases hu with
  |sl0=>
    rename_i a cap
    refine⟨0,[],[],by simpa using h,⟨rfl,fun _ _ hc=>by simp at hc⟩,rfl,?_⟩
    cases a with
    |none=>exact .inl ⟨_,_,rfl,rfl⟩
    |some a=>exact .inr ⟨_,_,rfl,fun _ _ h=>by simp at h⟩
  |sl vals hcap hJ hs hcl hrd=>
    rename_i b off cap sz'
    obtain⟨vs,e1,e2,e3⟩:=gg (fun(c:D) v=>aj b₀ β s.gen s.obj w (.d c) v) (fun j=>w.cell? ⟨b,off+j,none⟩) es.flatten (fun m c hc=>by
     obtain⟨i,e',j,h1,h2,rfl⟩:=gF es hs m c hc
     refine⟨vals i j,?_,hrd i e' h1 j c h2⟩
     rw[←z1];exact hcl i e' h1 j c h2)
    have hl:vs.length=es.length:=by rw[e1,jF es hsz,H5]
    have hca:aP b₀ β s w (es.flatten.map .d) vs:=by
     refine⟨by rw[b7,e1],fun j c hc=>?_⟩
     rw[l8] at hc
     cases hq:es.flatten[j]? with
     |none=>rw[hq] at hc;cases hc
     |some x=>
       exact NJ
    exact⟨_,_,vs,h,hca,hl,.inr ⟨⟨b,off,none⟩,cap,rfl,fun j v hv=>by rw[cq];exact e2 j v hv⟩⟩
 ·exact absurd h.1 a7
 ·rename_i id g' sz' off len
  obtain⟨_,hg,rfl,h⟩:=h
  obtain⟨cells,ho,hfit,hK⟩:=aq h
  simp only[ab] at hu
  have hat:=eO hu hg Oi
  rcases mw hr (hat.spot) ho hfit with⟨ad,hβ,vs,hca,hl,hcell⟩|⟨hβ,rfl⟩
  ·rw[hβ] at hat
   rw[H5] at hl
   rcases hat.2 with⟨cap,rfl,_,_⟩|⟨rfl,o,rfl⟩
   ·exact⟨_,_,vs,hK,hca,hl,.inr ⟨_,cap,rfl,fun j v hv=>by rw[cq];exact hcell j v hv⟩⟩
   ·have:vs=[]:=j5 OF
    subst this
    exact⟨_,_,[],hK,hca,rfl,.inr ⟨_,_,rfl,fun j v hv=>by simp at hv⟩⟩
  ·rw[hβ] at hat
   obtain⟨rfl,rfl⟩:=hat
   exact⟨_,_,[],hK,⟨a7,fun j c hc=>by simp at hc⟩,rfl,.inl ⟨_,_,rfl,rfl⟩⟩
 ·exact M4
theorem sf {s:St}:∀{cs:List C}{ns:List Int}{vs:List Value},u8s cs=some ns→aP b₀ β s w cs vs→vs=ns.map (.int .u8)
 |[],ns,vs,h,hc=>by
   simp only[u8s] at h;cases h
   exact j5 hc.1
 |c::cs,ns,vs,h,hc=>by
   match vs,hc with
   |[],hc=>exact absurd hc.1 a7
   |v::vs,hc=>
     cases c with
     |d x=>
       cases x with
       |int k n=>
         cases k with
         |u8=>
           simp only[u8s] at h
           obtain⟨ns',h1,rfl⟩:=J7.1 h
           have h0:=hc.2 0 _ rfl
           obtain⟨u,hu,hru⟩:∃u,(v::vs)[0]? = some u∧_:=h0
           cases hu
           simp only[aj] at hru
           obtain rfl:=hru.inv_int
           have ht:aP b₀ β s w cs vs:=⟨by simpa using hc.1,fun j c' hc'=>by simpa using hc.2 (j+1) c' (by simpa using hc')⟩
           rw[j8,sf h1 ht]
         |_=>simp[u8s] at h
       |_=>simp[u8s] at h
     |_=>simp[u8s] at h
theorem sg (hT:aI P T) (hr:Rel b₀ N s β a w) {src dst:Nat}{x:AV}{K:AV→Prop}{k:Box K} (h:mY s (aS T src).desc (T src).desc (T dst).desc x k) (hv:ab b₀ β s.gen s.obj w x v) :
  ∃z cv,K z∧(∀w',Ext w w'→(convert src dst v).run P w'=.ok cv w')∧ab b₀ β s.gen s.obj w z cv:=by
 unfold mY at h
 split at h
 ·rename_i hd
  simp only[ab,aj] at hv
  obtain rfl:=hv.inv_int
  have h1:=(hT src h.1).desc
  have h2:=(hT dst Ot).desc
  rw[hd] at h2
  refine dq h.2 fun w=>?_
  simp[convert,run_underlying h1,run_underlying h2,Conv.intToInt]
 ·rename_i hs hd
  simp only[ab,aj] at hv
  obtain rfl:=hv.inv_str
  have h1:=(hT src (by rw[hs];rfl)).desc
  rw[hs] at h1
  have h2:=(hT dst Ot).desc
  rw[hd] at h2
  refine ua h fun w=>?_
  simp[convert,run_underlying h1,run_underlying h2]
 ·rename_i y e hs hd
  obtain⟨hu8,h⟩:=h
  have h1:=(hT src (by rw[hs];rfl)).desc
  rw[hs] at h1
  have h2:=(hT dst Ot).desc
  rw[hd] at h2
  have hel:aS T src=T e:=by simp[aS,hs]
  rw[hel] at hu8
  have hed:(T e).desc=.int .u8:=by cases hq:(T e).desc <;> rw[hq] at hu8 <;> simp[qG] at hu8;rename_i kk;cases kk <;> simp[qG] at hu8;rfl
  have he:=(hT e (by rw[hed];rfl)).desc
  rw[hed] at he
  obtain⟨n,cs,news,hK,hca,hl,hcase⟩:=se hT hr h hv
  obtain⟨ns,hns,hK⟩:=aq hK
  obtain rfl:=sf hns hca
  refine⟨_,.string ⟨(ns.map fun n=>UInt8.ofNat n.toNat).toArray⟩,hK,fun w' hw'=>?_,by simp only[ab,aj];exact .str _⟩
  rcases hcase with⟨l,c,rfl,hn⟩|⟨ad,cap,rfl,hcell⟩
  ·have:ns=[]:=j5 (by rw[←hn,←hl];simp)
   subst this
   simp[convert,run_underlying h1,run_underlying h2,run_underlying he,Conv.bytesToString]
   rfl
  ·rw[run_convert_bytes_string w' src dst e (some ad) n cap h1 he h2]
   have hlc:=run_loadCells_list (P:=P) w' ad (ns.map (Value.int .u8)) (fun j v hj=>hw'.cell (hcell j v hj))
   rw[b7] at hl
   simp only[b7,hl] at hlc
   rw[run_bytesToString w' ad n cap _ hlc]
   have hf:∀(l:List Int) (r:ByteArray),l.foldl (fun r n=>r.push (UInt8.ofNat n.toNat)) r=⟨r.data++(l.map fun n=>UInt8.ofNat n.toNat).toArray⟩:=by
    intro l
    induction l with
    |nil=>intro r;simp
    |cons n l ih=>intro r;rw[H3,ih];simp[ByteArray.push]
   rw[hf]
   have he0:ByteArray.empty.data = #[]:=rfl
   rw[he0]
   simp
 ·exact M4
theorem oK (c:Nat) (hr:Rel b₀ N s β a w) (i d:Nat) (hd:d<N) {w':World}{arr:Array Value}{el:TypeId} (hw:w'.heap=w.heap.push (.cells arr el (0,0))) (hos:w'.os=w.os∧w'.output=w.output) {cs:List C}{vs:List Value}
  (hc:aP b₀ β s w cs vs) (harr:∀(j:Nat) v,vs[j]? = some v→arr[j]? = some v) (hlen:cs.length≤arr.size) (hel:c≠0→c<1000000→el+1=c) (sz len cap:Nat) (hcap:len≤cap) (hfit:cap*sz≤arr.size) :
  Rel b₀ N ((s.newC c i cs).put (some d) (.one (.osl i (nxC c (s.gen i)) sz 0 len))) (upd β i (some ⟨w.heap.size,0,none⟩)) (a.put (some d) (.slice (some ⟨w.heap.size,0,none⟩) len cap)) w'∧
   Tr b₀ β s w (upd β i (some ⟨w.heap.size,0,none⟩)) ((s.newC c i cs).put (some d) (.one (.osl i (nxC c (s.gen i)) sz 0 len))) w':=by
 obtain⟨h1,h2⟩:=Rel.new c hr i hw hos hlen hel (fun j c hj=>let ⟨u,hu,hr'⟩:=hc.2 j c hj;⟨u,harr j u hu,hr'⟩)
 refine⟨h1.put (fun d' hd'=>by cases hd';exact hd) ?_,h2.trans (Tr.same (St.put_gen _ _ _) (St.put_obj _ _ _) rfl)⟩
 simp only[ab,aj]
 refine⟨rfl,by simp[St.newC,upd],fun _ _=>?_⟩
 simp only[upd,A9]
 refine⟨rfl,.inl ⟨cap,a7,hcap,fun arr' el' fr' h=>?_⟩⟩
 rw[hw] at h
 simp at h
 obtain⟨rfl,_⟩:=h
 simpa using hfit
theorem grownCap_ge (w:World) (need old:Nat) (e:TypeId):need≤grownCap w need old e:=by simp[grownCap,Question.cut]
theorem pT (hT:aI P T) (hr:Rel b₀ N s β a w) {src d base:Nat}{dst:Option Nat} (hd:∀j,dst=some j→j<N) {x:AV}{K:St→Prop}{k:Box K} (h:iH T src d base dst s x k) (hv:ab b₀ β s.gen s.obj w x v) :
  ∃s' β' w' cv,K s'∧(convert src d v).run P w=.ok cv w'∧Rel b₀ N s' β' (a.put dst cv) w'∧Tr b₀ β s w β' s' w':=by
 unfold iH at h
 split at h
 ·rename_i dd bs
  obtain⟨hst,hu8,h⟩:=h
  have hs:=(hT src (by rw[dP hst];rfl)).desc
  rw[dP hst] at hs
  obtain⟨e,hde,hel⟩:∃e,(T d).desc=.slice e∧aS T d=T e:=by
   unfold aS at hu8 ⊢
   cases hq:(T d).desc with
   |slice e=>exact⟨e,rfl,rfl⟩
   |_=>rw[hq] at hu8;exact absurd (show false=true from hu8) a8
  have hdd:=(hT d (by rw[hde];rfl)).desc
  rw[hde] at hdd
  rw[hel] at hu8
  have hed:(T e).desc=.int .u8:=by cases hq:(T e).desc <;> rw[hq] at hu8 <;> simp[qG] at hu8;rename_i kk;cases kk <;> simp[qG] at hu8;rfl
  have he:=(hT e (by rw[hed];rfl)).desc
  rw[hed] at he
  have hty:aJ T d=e:=by simp[aJ,hde]
  simp only[ab,aj] at hv
  obtain rfl:=hv.inv_str
  have hrun:=Lib.run_convert_string_bytes (P:=P) w src d e ⟨bs.toArray⟩ hs hdd he
  have hz:(⟨bs.toArray⟩:ByteArray).size=bs.length:=by simp[ByteArray.size]
  have hheap:(Lib.bytesWorld w e ⟨bs.toArray⟩).heap=w.heap.push (.cells (Lib.bytesCells w e ⟨bs.toArray⟩) e ((Lib.bytesCells w e ⟨bs.toArray⟩).size,(Lib.bytesCells w e ⟨bs.toArray⟩).size+1)):=by
   apply Array.ext_getElem?
   intro j
   rcases Nat.lt_trichotomy j w.heap.size with hj|hj|hj
   ·rw[Lib.bytesWorld_at_old w e _ j hj,Lz,if_neg a6]
   ·subst hj;rw[Lib.bytesWorld_at_new,Lz,if_pos rfl]
   ·rw[D9 (by rw[Lib.bytesWorld_size];omega),D9 N7]
  have hge:=grownCap_ge w bs.length 0 e
  have hsz:(Lib.bytesCells w e ⟨bs.toArray⟩).size=grownCap w bs.length 0 e:=by
   simp[Lib.bytesCells,hz];omega
  rw[hty] at h
  refine⟨_,upd β (base+dd) (some ⟨w.heap.size,0,none⟩),_,_,h,hrun,?_⟩
  obtain⟨h1,h2⟩:=hr.newAny (c:=e+1) (base+dd) (w':=Lib.bytesWorld w e ⟨bs.toArray⟩) (ad:=⟨w.heap.size,0,none⟩) (cs:=bs.map fun b=>.d (gU b)) rfl hheap ⟨rfl,rfl⟩ fun hkeep=>
   .ofCells rfl ⟨hr.base,Lib.bytesCells w e ⟨bs.toArray⟩,e,(Lib.bytesCells w e ⟨bs.toArray⟩).size,(Lib.bytesCells w e ⟨bs.toArray⟩).size+1,by rw[hheap];simp,⟨.inr (b9 _),fun h=>⟨by rw[eK] at h ⊢;split at h <;> rename_i hc <;> simp_all,rfl⟩⟩,by rw[hsz];simpa using hge,fun j c hc=>by
    rw[l8] at hc
    cases hq:bs[j]? with
    |none=>rw[hq] at hc;cases hc
    |some b=>
      rw[hq] at hc
      simp only[r0,l9] at hc
      subst hc
      have hj:j<bs.length:=(j0.1 hq).1
      refine⟨.int .u8 b.toNat,?_,by simp only[aj,gU];exact .int _ _⟩
      rw[A3,Lib.bytesCells,A7 (by simpa using hj)]
      simp[hq]⟩
  refine⟨h1.put hd ?_,h2.trans (Tr.same (St.put_gen _ _ _) (St.put_obj _ _ _) rfl)⟩
  simp only[ab,aj]
  refine⟨rfl,by simp[St.newC,upd],fun _ _=>?_⟩
  simp only[upd,A9]
  refine⟨rfl,.inl ⟨grownCap w bs.length 0 e,rfl,hge,fun arr' el' fr' h=>?_⟩⟩
  rw[hheap] at h
  simp at h
  obtain⟨rfl,_⟩:=h
  rw[hsz]
  simp
 ·exact M4
theorem lm.zsize {t:Nat} (h:lm P t ti) {i:TypeInfo}{z:Value} (hi:P.info? t=some i) (hz:i.zero=some z):z.cells.size=ti.size:=by
 obtain⟨i',hi',_,_,z',hz',hc⟩:=h.info
 rw[hi] at hi';cases hi'
 rw[hz] at hz';cases hz'
 rw[←H9,hc,b7,h.zlen]
theorem Bk {e g g' off:Nat} (h:code (nxC (apC e g off) g')≠0):code g=e+1∧off=0∧code (nxC (apC e g off) g')=e+1:=by
 unfold apC at h ⊢
 by_cases hc:code g=e+1∧off=0
 ·rw[if_pos hc] at h ⊢
  refine⟨hc.1,hc.2,?_⟩
  rw[eK] at h ⊢
  split
  ·rfl
  ·rename_i hn;rw[if_neg hn] at h;exact absurd rfl h
 ·rw[if_neg hc,eK] at h
  exact absurd rfl h
theorem EF (e g off:Nat):apC e g off=e+1∨apC e g off=0:=by unfold apC;split <;> simp
theorem xZ {e g off:Nat} (h:apC e g off≠0):code g=apC e g off∧off=0:=by
 unfold apC at h ⊢
 by_cases hc:code g=e+1∧off=0
 ·rw[if_pos hc];exact hc
 ·rw[if_neg hc] at h;exact absurd rfl h
theorem nh (c:Nat) (hr:Rel b₀ N s β a w) (hu:P.underlying t=some (.slice e)) (hte:lm P e ti) (i d:Nat) (hd:d<N) {base:Option Addr}{sLen sCap n:Nat}{x:Value}{olds news:List Value}
  (hold:(Builtin.firstCells ti.size sLen (.slice base sLen sCap)).run P w.drew=.ok olds.toArray w.drew) (hlo:olds.length=sLen*ti.size) (hs:Src P ti.size tx x n news w)
  (hc:aP b₀ β s w cs olds) (hc':aP b₀ β s w cs' news) (hg:sCap<sLen+n) (hroom:og (sLen+n) ti.bytes) (hcc:c=e+1∨c=0) (ty:TypeId) :
  ∃β' w' cv,(Builtin.append_ #[t,tx] ty #[.slice base sLen sCap,x]).run P w=.ok cv w'∧
   Rel b₀ N ((s.newC c i (cs++cs')).put (some d) (.one (.osl i (nxC c (s.gen i)) ti.size 0 (sLen+n)))) β' (a.put (some d) cv) w'∧
   Tr b₀ β s w β' ((s.newC c i (cs++cs')).put (some d) (.one (.osl i (nxC c (s.gen i)) ti.size 0 (sLen+n)))) w':=by
 obtain⟨inf,hi,hsz,hby,z,hz,hzc⟩:=hte.info
 have hzs:=hte.zsize hi hz
 have hnext:=nextslicecap_le (sLen+n) sCap hg
 obtain⟨hb1,hroom⟩:=hroom
 have h63:((sLen+n:Nat):Int)≤9223372036854775807:=by
  have:(2*(sLen+n)+1024)*1≤(2*(sLen+n)+1024)*ti.bytes:=Nat.mul_le_mul_left _ hb1
  omega
 have hfit:Builtin.nextslicecap (sLen+n) sCap*inf.bytes≤281474976710656:=by
  rw[hby]
  exact z6 (K4 _ hnext) hroom
 rw[←hsz] at hold hs
 have hrun:=run_append_grow_src (P:=P) w t tx ty e inf z hu hi hz base sLen sCap olds hold x n news hs hg h63 hfit
 have hge:=grownCap_ge w (sLen+n) sCap e
 have hnl:news.length=n*ti.size:=by rw[←hsz];exact hs.newsLen
 have hlen:(olds++news).length=(sLen+n)*ti.size:=by rw[c9,hlo,hnl,C0]
 refine⟨upd β i (some ⟨w.heap.size,0,none⟩),_,_,hrun,?_⟩
 refine oK c hr i d hd (el:=e) rfl (by exact⟨rfl,rfl⟩) (hc.append hc') (fun j v hv=>?_) ?_ (fun h1 _=>(hcc.resolve_right h1).symm) _ _ _ hge ?_
 ·rw[A7]
  ·simpa using hv
  ·simpa using(j0.1 hv).1
 ·have:=(hc.append hc').1
  simp at this ⊢
  omega
 ·have hzl:(Builtin.zeroCells z.cells (grownCap w (sLen+n) sCap e-(sLen+n))).size=(grownCap w (sLen+n) sCap e-(sLen+n))*ti.size:=by
   simp[Builtin.zeroCells,hzs]
  rw[Array.size_append,hzl]
  have h1:(olds++news).toArray.size=(sLen+n)*ti.size:=by simpa using hlen
  rw[h1,←C0]
  exact Nat.le_of_eq (by congr 1;omega)
theorem gw (c:Nat) (hr:Rel b₀ N s β a w) (i d:Nat) (hd:d<N) (sz:Nat) {x:Option Addr} (hx:ju w sz 0 0 v x) (h1:v.oneCell'=true)
  (hob:cw b₀ β s.gen s.obj w (nxC c (s.gen i)) [] x) (hinj:∀i' a' a'',i'≠i→(s.obj i').isSome=true→β i'=some a'→x=some a''→a'.block≠a''.block) (himm:∀b a'',x=some a''→Imm b₀ β s.obj w b→a''.block≠b) :
  Rel b₀ N ((s.newC c i []).put (some d) (.one (.osl i (nxC c (s.gen i)) sz 0 0))) (upd β i x) (a.put (some d) v) w∧Tr b₀ β s w (upd β i x) ((s.newC c i []).put (some d) (.one (.osl i (nxC c (s.gen i)) sz 0 0))) w:=by
 have hkeep:dO b₀ β s.gen s.obj w (upd β i x) (s.newC c i []).gen (s.newC c i []).obj w:=by
  refine⟨fun b hb=>⟨⟨hb.1,hb.2.1,fun i' a' hi' hβ'=>?_⟩,rfl⟩,fun i'=>?_,fun i' hg hi'=>?_⟩
  ·simp only[St.newC,upd] at hi' hβ'
   split at hβ'
   ·exact himm b a' hβ' hb
   ·rename_i hne
    simp only[hne,A1] at hi'
    exact hb.2.2 i' a' hi' hβ'
  ·exact MW
  ·simp only[St.newC,upd] at hg hi' ⊢
   by_cases hne:i'=i
   ·subst hne;simp at hg;exact absurd hg (tQ _ _)
   ·simp only[hne,A1] at hi' ⊢
    exact⟨hi',trivial,fun a' ha' arr1 el1 fr1 h1=>⟨arr1,el1,fr1,h1,b9 _⟩⟩
 have hrel:Rel b₀ N (s.newC c i []) (upd β i x) a w:=by
  refine⟨hr.defers,hr.size,fun i=>ab.keep hkeep _ (hr.f i),fun i' cells' hc'=>?_,fun i1 i2 a1 a2 h1 h2 hb1 hb2 hb=>?_,hr.base⟩
  ·simp only[St.newC,upd] at hc' ⊢
   by_cases hid:i'=i
   ·subst hid
    simp only[A9,l9] at hc' ⊢
    subst hc'
    exact hob.keep hkeep (fun _ _=>rfl)
   ·simp only[hid,A1] at hc' ⊢
    exact(hr.obj i' cells' hc').keep hkeep (fun _ _=>rfl)
  ·simp only[St.newC,upd] at h1 h2 hb1 hb2
   by_cases hi1:i1=i <;> by_cases hi2:i2=i
   ·rw[hi1,hi2]
   ·simp only[hi1,hi2,A9,A1] at h1 h2 hb1 hb2
    exact absurd hb.symm (hinj i2 a2 a1 hi2 h2 hb2 hb1)
   ·simp only[hi1,hi2,A9,A1] at h1 h2 hb1 hb2
    exact absurd hb (hinj i1 a1 a2 hi1 h1 hb1 hb2)
   ·exact NV
 refine⟨hrel.put (fun d' hd'=>by cases hd';exact hd) ?_,⟨b9 _,fun _ _=>rfl,?_,rfl,rfl⟩⟩
 ·simp only[ab,aj]
  refine⟨h1,by simp[St.newC,upd],fun _ _=>?_⟩
  simp only[upd,A9]
  exact hx
 ·rw[St.put_obj,St.put_gen];exact hkeep
theorem sh (c:Nat) (hr:Rel b₀ N s β a w) (hu:P.underlying t=some (.slice e)) (hte:lm P e ti) (i d:Nat) (hd:d<N) {ad:Addr}{off sLen sCap n:Nat}{x:Value}{cells cs':List C}{news:List Value}
  (hβ:β i=some ad) (hsp:ad.spot=none) (ho:s.obj i=some cells) (hfit:off+sLen*ti.size≤cells.length) (hcap:∀arr el fr,w.heap[ad.block]? = some (.cells arr el fr)→ad.off+off+sCap*ti.size≤arr.size)
  (hs:Src P ti.size tx x n news w) (hc':aP b₀ β s w cs' news) (hg:sLen+n≤sCap) (hcc:c≠0→code (s.gen i)=c∧off=0) (ty:TypeId) :
  ∃β' w' cv,(Builtin.append_ #[t,tx] ty #[.slice (some ⟨ad.block,ad.off+off,none⟩) sLen sCap,x]).run P w=.ok cv w'∧
   Rel b₀ N ((s.newC c i ((cells.drop off).take (sLen*ti.size)++cs')).put (some d) (.one (.osl i (nxC c (s.gen i)) ti.size 0 (sLen+n)))) β' (a.put (some d) cv) w'∧
   Tr b₀ β s w β' ((s.newC c i ((cells.drop off).take (sLen*ti.size)++cs')).put (some d) (.one (.osl i (nxC c (s.gen i)) ti.size 0 (sLen+n)))) w':=by
 obtain⟨inf,hi,hsz,hby,z,hz,hzc⟩:=hte.info
 have hob:=hr.obj i cells ho
 rw[hβ] at hob
 obtain⟨hB,arr,el,lo,hi',hblk,hfr,hlen,hcells⟩:=hob.cells hsp
 have hcap':=hcap _ _ _ hblk
 have hnl:news.length=n*ti.size:=hs.newsLen
 have hmul:sLen*ti.size+n*ti.size≤sCap*ti.size:=by rw[←C0];exact K4 _ hg
 rw[←hsz] at hs
 have hrun:=run_append_room_src (P:=P) w t tx ty e inf hu hi ad.block (ad.off+off) sLen sCap x n news hs hg (fun j hj=>by
   rw[hsz,ct hblk,o9 a6];rfl) (fun j hj=>by rw[hsz];exact mu hblk hfr.1 a6)
 rw[hsz] at hrun
 obtain⟨arr',f1,f2,f3⟩:=eu ad.block news (ad.off+off+sLen*ti.size) w arr el (lo,hi') hblk
 have hother:∀b,b≠ad.block→(w.setCells ad.block (ad.off+off+sLen*ti.size) news).heap[b]? = w.heap[b]?:=fun b hb=>heap_setCells_other _ _ _ _ _ hb
 generalize hw':w.setCells ad.block (ad.off+off+sLen*ti.size) news=w' at *
 have hwsize:w'.heap.size=w.heap.size:=by rw[←hw'];exact setCells_size _ _ _ _
 have hwos:w'.os=w.os∧w'.output=w.output:=by rw[←hw'];exact jE _ _ _ _
 generalize hcs:(cells.drop off).take (sLen*ti.size)=front at *
 have hfl:front.length=sLen*ti.size:=by rw[←hcs];simp;omega
 have hkeep:dO b₀ β s.gen s.obj w (upd β i (some ⟨ad.block,ad.off+off,none⟩)) (s.newC c i (front++cs')).gen (s.newC c i (front++cs')).obj w':=by
  refine⟨fun b hb=>?_,fun i'=>?_,fun i' hg hi'=>?_⟩
  ·have hne:b≠ad.block:=fun he=>hb.2.2 i ad Oi hβ he.symm
   refine⟨⟨by rw[hwsize];exact hb.1,hb.2.1,fun i' a' hi' hβ'=>?_⟩,hother b hne⟩
   simp only[St.newC,upd] at hi' hβ'
   split at hβ'
   ·cases hβ';exact C5 hne
   ·rename_i hne'
    simp only[hne',A1] at hi'
    exact hb.2.2 i' a' hi' hβ'
  ·exact MW
  ·simp only[St.newC,upd] at hg hi' ⊢
   by_cases hne:i'=i
   ·subst hne;simp at hg;exact absurd hg (tQ _ _)
   ·simp only[hne,A1] at hi' ⊢
    refine⟨hi',trivial,fun a' ha' arr1 el1 fr1 h1=>?_⟩
    rw[hother _ (fun hb=>hne (hr.inj i' i a' ad hi' Oi ha' hβ hb))] at h1
    exact NM
 have hrel:Rel b₀ N (s.newC c i (front++cs')) (upd β i (some ⟨ad.block,ad.off+off,none⟩)) a w':=by
  refine⟨hr.defers,hr.size,fun i=>ab.keep hkeep _ (hr.f i),fun i' cells' hc'=>?_,fun i1 i2 a1 a2 h1 h2 hb1 hb2 hb=>?_,by rw[hwsize];exact hr.base⟩
  ·simp only[St.newC,upd] at hc' ⊢
   by_cases hid:i'=i
   ·subst hid
    simp only[A9,l9] at hc' ⊢
    subst hc'
    have hnl':cs'.length=news.length:=hc'.1.symm
    have hclaim:code (nxC c (s.gen i'))≠0→el+1=code (nxC c (s.gen i'))∧(⟨ad.block,ad.off+off,none⟩:Addr).off=0:=fun hcd=>by
     have h1:code (nxC c (s.gen i'))=c:=by
      rw[eK] at hcd ⊢
      split
      ·rfl
      ·rename_i h;rw[if_neg h] at hcd;exact absurd rfl hcd
     rw[h1] at hcd ⊢
     obtain⟨q1,q2⟩:=hcc hcd
     obtain⟨q3,q4⟩:=hfr.2 (by rw[q1];exact hcd)
     exact⟨by rw[q3,q1],by simp[q4,q2]⟩
    refine .ofCells rfl ⟨hB,arr',el,lo,hi',f1,⟨by rw[f2];exact hfr.1,hclaim⟩,by rw[c9,hfl,f2,hnl'];simp only;omega,fun j c hc=>?_⟩
    rw[f3]
    simp only at *
    rw[E8] at hc
    split at hc
    ·rename_i hj
     rw[hfl] at hj
     rw[←hcs,D5,if_pos hj,A4] at hc
     obtain⟨u',hu',hr'⟩:=hcells _ c hc
     refine⟨u',?_,hr'.keep hkeep⟩
     rw[if_neg a6,z1];exact hu'
    ·rename_i hj
     rw[hfl] at hj hc
     obtain⟨u',hu',hr'⟩:=hc'.2 _ c hc
     have hlt:j-sLen*ti.size<news.length:=by rw[←hnl'];exact(j0.1 hc).1
     refine⟨u',?_,hr'.keep hkeep⟩
     rw[if_pos a6,show ad.off+off+j-(ad.off+off+sLen*ti.size)=j-sLen*ti.size by omega]
     exact hu'
   ·simp only[hid,A1] at hc' ⊢
    exact(hr.obj i' cells' hc').keep hkeep (fun a' ha'=>hother _ (fun hb=>hid (hr.inj i' i a' ad (by simp[hc']) Oi ha' hβ hb)))
  ·simp only[St.newC,upd] at h1 h2 hb1 hb2
   by_cases hi1:i1=i <;> by_cases hi2:i2=i
   ·rw[hi1,hi2]
   ·simp only[hi1,hi2,A9,A1] at h1 h2 hb1 hb2
    cases hb1
    exact absurd (hr.inj i2 i a2 ad h2 Oi hb2 hβ hb.symm) hi2
   ·simp only[hi1,hi2,A9,A1] at h1 h2 hb1 hb2
    cases hb2
    exact absurd (hr.inj i1 i a1 ad h1 Oi hb1 hβ hb) hi1
   ·exact NV
 refine⟨_,_,_,hrun,hrel.put (fun d' hd'=>by cases hd';exact hd) ?_,⟨by rw[hwsize];exact b9 _,fun b hb=>hother b a6,?_,hwos⟩⟩
 ·simp only[ab,aj]
  refine⟨rfl,by simp[St.newC,upd],fun _ _=>?_⟩
  simp only[upd,A9]
  refine⟨rfl,.inl ⟨sCap,a7,hg,fun arr1 el1 fr1 h1=>?_⟩⟩
  rw[f1] at h1
  cases h1
  rw[f2];simpa using hcap'
 ·rw[St.put_obj,St.put_gen];exact hkeep
end
end
section
variable {s:St}{N:Nat}{a:Act}{K:St→Prop}{cs:List C}{v u:Value}{k:Box K}
section
variable {P:Program}{T:Nat→TI}{b₀:Bs}{β:Loc}{w:World}
theorem Src.eq_nil {size:Nat}{tx:TypeId}{x:Value}{news:List Value} (hs:Src P size tx x 0 news w):news=[]:=j5 (by rw[hs.newsLen];simp)
theorem aP.nil_of (h:aP b₀ β s w cs []):cs=[]:=j5 (by rw[←h.1];rfl)
theorem uk (hr:Rel b₀ N s β a w) {i:Nat}{ad:Addr} (ho:(s.obj i).isSome=true) (hβ:β i=some ad):ad.block<w.heap.size:=by
 obtain⟨cells,hc⟩:=E6.1 ho
 have:=hr.obj i cells hc
 rw[hβ] at this
 exact this.block.2
theorem pU (hT:aI P T) (hr:Rel b₀ N s β a w) {t tx i₀ d:Nat} (hsl:cS T t=true) (hd:d<N) {x y:AV}
  (h:iE (aJ T t) (aS T t) (isStr (T tx).desc) (cS T tx) i₀ d s x y k) (hv:ab b₀ β s.gen s.obj w x v) (hu:ab b₀ β s.gen s.obj w y u) (ty:TypeId) :
  ∃s' β' w' cv,K s'∧(Builtin.append_ #[t,tx] ty #[v,u]).run P w=.ok cv w'∧Rel b₀ N s' β' (a.put (some d) cv) w'∧Tr b₀ β s w β' s' w':=by
 obtain⟨e,he1,he2,hty,hte⟩:=cL hT hsl
 rw[he2,show aJ T t=e from by simp[aJ,he1]] at h
 unfold iE at h
 split at h
 ·simp only[ab,aj] at hv
  obtain rfl:=hv.inv_nsl
  obtain⟨n,cs,news,⟨hroom,hK⟩,hs,hca⟩:=jG hT hr h hu
  obtain⟨inf,hi,hsz,_⟩:=hte.info
  by_cases hn:n=0
  ·subst hn
   obtain rfl:=Src.eq_nil hs
   obtain rfl:=hca.nil_of
   have hrun:=run_append_nothing (P:=P) w t tx ty e inf hty hi none 0 0 (b9 _) u (by rw[hsz];exact hs)
   obtain⟨r1,r2⟩:=gw (e+1) hr i₀ d hd (T e).size (x:=none) (v:=.slice none 0 0) ⟨rfl,rfl⟩ rfl rfl (fun _ _ _ _ _ _ hx=>by cases hx) (fun _ _ hx=>by cases hx)
   exact⟨_,_,_,_,hK,hrun,r1,r2⟩
  ·obtain⟨β',w',cv,g1,g2,g3⟩:=nh (e+1) hr hty hte i₀ d hd (base:=none) (sLen:=0) (sCap:=0) (n:=n) (x:=u) (cs:=[]) (cs':=cs) (olds:=[]) (news:=news)
    (run_firstCells_none w.drew _ _ _ _) a7 hs ⟨rfl,fun _ _ hc=>by simp at hc⟩ hca a6 (by simpa using hroom) (.inl rfl) ty (tx:=tx)
   simp only[K6,A3] at g2 g3
   exact⟨_,_,_,_,hK,g1,g2,g3⟩
 ·rename_i id g' sz off len
  obtain⟨hg,rfl,h⟩:=h
  obtain⟨cells,ho,hfit,h⟩:=aq h
  simp only[ab] at hv
  have hat:=eO hv hg Oi
  obtain⟨n,cs,news,⟨hroom,hK⟩,hs,hca⟩:=jG hT hr h hu
  obtain⟨inf,hi,hsz,_⟩:=hte.info
  have hob:=hr.obj id cells ho
  -- an empty handle,to which nothing is appended
  have hempty:len=0→n=0→v.oneCell'=true→∀(hv0:∃b,v=.slice b 0 0),∃s' β' w' cv,K s'∧(Builtin.append_ #[t,tx] ty #[v,u]).run P w=.ok cv w'∧Rel b₀ N s' β' (a.put (some d) cv) w'∧Tr b₀ β s w β' s' w':=by
   rintro rfl rfl hone ⟨b,rfl⟩
   obtain rfl:=Src.eq_nil hs
   obtain rfl:=hca.nil_of
   have hrun:=run_append_nothing (P:=P) w t tx ty e inf hty hi b 0 0 (b9 _) u (by rw[hsz];exact hs)
   simp only[Nat.zero_mul,E9,y1,G3] at hK
   cases hβ:β id with
   |none=>
     rw[hβ] at hat hob
     obtain⟨r1,r2⟩:=gw (apC e (s.gen id) off) hr id d hd (T e).size (x:=none) (v:=.slice b 0 0) ⟨rfl,hat.2⟩ hone rfl (fun _ _ _ _ _ _ hx=>by cases hx) (fun _ _ hx=>by cases hx)
     exact⟨_,_,_,_,hK,hrun,r1,r2⟩
   |some ad=>
     rw[hβ] at hat hob
     obtain⟨hsp,hat⟩:=hat
     obtain⟨hB,arr,el,lo,hi',hblk,hfr,hlen,hcells⟩:=hob.cells hsp
     have hx:ju w (T e).size 0 0 (.slice b 0 0) (some ⟨ad.block,ad.off+off,none⟩):=by
      rcases hat with⟨cap,hv1,_,hc⟩|⟨_,o,ho'⟩
      ·cases hv1
       exact⟨rfl,.inl ⟨0,a7,b9 _,fun arr1 el1 fr1 h1=>by have:=hc _ _ _ h1;simpa using this⟩⟩
      ·exact⟨rfl,.inr ⟨rfl,o,ho'⟩⟩
     obtain⟨r1,r2⟩:=gw (apC e (s.gen id) off) hr id d hd (T e).size (x:=some ⟨ad.block,ad.off+off,none⟩) (v:=.slice b 0 0) hx hone
      (.ofCells rfl ⟨hB,arr,el,lo,hi',hblk,⟨hfr.1,fun hcd=>by obtain⟨q1,q2,q3⟩:=Bk hcd;obtain⟨q4,q5⟩:=hfr.2 (by rw[q1];omega);exact⟨by rw[q3,q4,q1],by simp[q5,q2]⟩⟩,by simp at hfit ⊢;omega,fun _ _ hc=>by simp at hc⟩)
      (fun i' a' a'' hne hi1 hb1 hb2 hb=>by cases hb2;exact hne (hr.inj i' id a' ad hi1 Oi hb1 hβ hb)) (fun b' a'' hb2 hb=>by cases hb2;exact hb.2.2 id ad Oi hβ)
     exact⟨_,_,_,_,hK,hrun,r1,r2⟩
  -- the cells that are there already
  have hgrow:∀base sCap,v=.slice base len sCap→len*(T e).size=0∨(∃ad,β id=some ad∧base=some ⟨ad.block,ad.off+off,none⟩)→sCap<len+n→
    ∃s' β' w' cv,K s'∧(Builtin.append_ #[t,tx] ty #[v,u]).run P w=.ok cv w'∧Rel b₀ N s' β' (a.put (some d) cv) w'∧Tr b₀ β s w β' s' w':=by
   rintro base sCap rfl hbase hlt
   have hold:∃olds,(Builtin.firstCells (T e).size len (.slice base len sCap)).run P w.drew=.ok olds.toArray w.drew∧olds.length=len*(T e).size∧aP b₀ β s w ((cells.drop off).take (len*(T e).size)) olds:=by
    rcases hbase with h0|⟨ad,hβ,rfl⟩
    ·refine⟨[],?_,by simp[h0],by simp[h0],fun _ _ hc=>by rw[h0] at hc;simp at hc⟩
     cases base with
     |none=>exact run_firstCells_none w.drew _ _ _ _
     |some b=>exact run_firstCells_some w.drew _ _ b _ _ [] (by simp[h0]) (fun _ _ hc=>by simp at hc)
    ·rcases mw hr (hat.spot) ho hfit with⟨ad',hβ',vs,hcv,hl,hcell⟩|⟨hβ',rfl⟩
     ·rw[hβ] at hβ';cases hβ'
      exact⟨vs,run_firstCells_some w.drew _ _ _ _ _ vs hl (fun j u hu=>by rw[cq];simpa using hcell j u hu),hl,hcv⟩
     ·rw[hβ] at hβ';cases hβ'
   obtain⟨olds,o1,o2,o3⟩:=hold
   obtain⟨β',w',cv,g1,g2,g3⟩:=nh (apC e (s.gen id) off) hr hty hte id d hd (base:=base) (sLen:=len) (sCap:=sCap) (n:=n) (x:=u) o1 o2 hs o3 hca hlt hroom (EF _ _ _) ty (tx:=tx)
   exact⟨_,_,_,_,hK,g1,g2,g3⟩
  cases hβ:β id with
  |none=>
    rw[hβ] at hat
    obtain⟨hl0,rfl⟩:=hat
    by_cases hn:n=0
    ·exact hempty hl0 hn rfl ⟨none,rfl⟩
    ·subst hl0
     exact hgrow none 0 rfl (.inl a7) a6
  |some ad=>
    rw[hβ] at hat
    obtain⟨hsp,hat⟩:=hat
    rcases hat with⟨cap,rfl,hcap,hc⟩|⟨hl0,o,rfl⟩
    ·by_cases hlt:cap<len+n
     ·exact hgrow _ cap rfl (.inr ⟨ad,hβ,rfl⟩) hlt
     ·obtain⟨β',w',cv,g1,g2,g3⟩:=sh (apC e (s.gen id) off) hr hty hte id d hd hβ hsp ho hfit hc hs hca a6 xZ ty
      exact⟨_,_,_,_,hK,g1,g2,g3⟩
    ·by_cases hn:n=0
     ·exact hempty hl0 hn rfl ⟨_,rfl⟩
     ·subst hl0
      exact hgrow _ 0 rfl (.inl a7) a6
 ·exact M4
theorem my (hT:aI P T) (hr:Rel b₀ N s β a w) {t i₀ d:Nat} (hsl:cS T t=true) (hd:d<N) {x y:AV}
  (h:fj (aJ T t) (aS T t) i₀ d s x y k) (hv:ab b₀ β s.gen s.obj w x v) (hu:ab b₀ β s.gen s.obj w y u) :
  ∃s' β' w' cv,K s'∧(Instr.makeSlice t v u).run P w=.ok cv w'∧Rel b₀ N s' β' (a.put (some d) cv) w'∧Tr b₀ β s w β' s' w':=by
 obtain⟨e,he1,he2,hty,hte⟩:=cL hT hsl
 rw[he2,show aJ T t=e from by simp[aJ,he1]] at h
 unfold fj at h
 split at h
 ·rename_i k1 n k2 m
  obtain⟨h0,h1,h2,h3,hK⟩:=h
  simp only[ab,aj] at hv hu
  obtain rfl:=hv.inv_int
  obtain rfl:=hu.inv_int
  obtain⟨inf,hi,hsz,hby,z,hz,hzc⟩:=hte.info
  have hrun:=run_make (P:=P) w t e inf z hty hi hz k1 k2 n m h0 h1 (by rw[hby,Int.mul_comm];exact h3) a6
  have hzs:=hte.zsize hi hz
  have hfl:((List.replicate m.toNat ((T e).zero.map C.d)).flatten).length=m.toNat*(T e).size:=by
   simp[hte.zlen]
  refine⟨_,upd β i₀ (some ⟨w.heap.size,0,none⟩),_,_,hK,hrun,?_⟩
  refine oK (e+1) hr i₀ d hd rfl (by exact⟨rfl,rfl⟩) (vs:=(madeCells z.cells (m.toNat*inf.size)).toList) ⟨?_,fun j c hc=>?_⟩ (fun j v hv=>by simpa using hv) ?_ (fun _ _=>rfl) _ _ _ a6 ?_
  ·rw[hfl,H9,size_madeCells,hsz]
  ·have hlt:j<m.toNat*(T e).size:=by rw[←hfl];exact(j0.1 hc).1
   obtain⟨i,e',j',q1,q2,q3⟩:=gF (sz:=(T e).size) _ (fun e' he'=>by rw[LQ he',b7,hte.zlen]) j c hc
   have he':e'=(T e).zero.map C.d:=LQ (l4 q1)
   subst he'
   rw[l8] at q2
   cases hq:(T e).zero[j']? with
   |none=>rw[hq] at q2;cases q2
   |some x=>
     rw[hq] at q2
     simp only[r0,l9] at q2
     subst q2
     have hj':j'<(T e).size:=by rw[←hte.zlen];exact(j0.1 hq).1
     have hmod:j%z.cells.size=j':=by rw[hzs,q3,Nat.mul_comm,Nat.mul_add_mod,B7 hj']
     have hzj:z.cells[j']? = some (dV x):=by rw[←C2,hzc,l8,hq];rfl
     refine⟨dV x,?_,?_⟩
     ·rw[C2]
      have:j<m.toNat*inf.size:=by rw[hsz];exact hlt
      simp only[madeCells,Array.getElem?_map,Array.getElem?_range,this,A9,r0,hmod]
      rw[getElem!_def,hzj]
     ·simp only[aj]
      exact bm.of_plain (by have:=hte.plain;rw[l7] at this;exact this x (l4 hq))
  ·rw[hfl,size_madeCells,hsz];exact b9 _
  ·rw[size_madeCells,hsz];exact b9 _
 ·exact M4
theorem qn (off:Nat):∀(l:List Value) (k:Nat) (c:Array Value),((l.zipIdx k).foldl (fun cs (p:Value×Nat)=>cs.setIfInBounds (off+p.2) p.1) c).size=c.size∧
  ∀j,((l.zipIdx k).foldl (fun cs (p:Value×Nat)=>cs.setIfInBounds (off+p.2) p.1) c)[j]? = if off+k≤j∧j<off+k+l.length∧j<c.size then l[j-(off+k)]? else c[j]?
 |[],k,c=>⟨rfl,fun j=>by rw[if_neg N7];rfl⟩
 |v::l,k,c=>by
   simp only[List.zipIdx_cons,H3]
   obtain⟨h1,h2⟩:=qn off l (k+1) (c.setIfInBounds (off+k) v)
   refine⟨by rw[h1];simp,fun j=>?_⟩
   rw[h2 j]
   simp only[LP,e8]
   by_cases hj:j=off+k
   ·subst hj
    rw[if_neg a6]
    by_cases hs:off+k<c.size
    ·rw[if_pos a6,H4 hs];simp
    ·rw[if_neg a6];simp[hs]
   ·by_cases hc:off+(k+1)≤j∧j<off+(k+1)+l.length∧j<c.size
    ·rw[if_pos hc,if_pos a6]
     have:j-(off+k)=(j-(off+(k+1)))+1:=a6
     rw[this,s8]
    ·rw[if_neg hc,if_neg a6,G5 (C5 hj)]
theorem qp {pl:Nat→Option (Nat×Nat)}{i off sz:Nat}{v:Value}{vs:List Value}{cells:Array Value}{rest:List (Nat×Value)} (hp:pl i=some (off,sz)) (hv:v.cells=vs.toArray) (hl:vs.length=sz) (hfit:off+sz≤cells.size) :
  ∃cells':Array Value,Instr.fill pl cells ((i,v)::rest)=Instr.fill pl cells' rest∧cells'.size=cells.size∧∀j,cells'[j]? = if off≤j∧j<off+sz∧j<cells.size then vs[j-off]? else cells[j]?:=by
 obtain⟨h1,h2⟩:=qn off vs 0 cells
 have hsz:v.cells.size=sz:=by rw[hv];simpa using hl
 refine⟨_,?_,h1,fun j=>?_⟩
 ·simp only[Instr.fill,hp,hsz,ne_eq,LJ,LB,LO,gt_iff_lt,z8,if_neg (Nat.not_lt.2 hfit)]
  rw[hv]
  congr 1
  simp
 ·have:=h2 j
  simp only[G3,hl] at this
  exact this
theorem ni {N:Nat}{s:St}{a:Act} (hr:Rel b₀ N s β a w) {pl:Nat→Option (Nat×Nat)}:∀(ps:List (Nat×Operand)) {cells:List C}{carr:Array Value}{K:List C→Prop}{k:Box K},aP b₀ β s w cells carr.toList→
  na pl cells (ps.map fun p=>(p.1,s.ev p.2)) k→∃cells' carr',K cells'∧Instr.fill pl carr (ps.map fun p=>(p.1,a.eval p.2))=some carr'∧aP b₀ β s w cells' carr'.toList
 |[],cells,carr,K,k,hc,h=>⟨cells,carr,h,rfl,hc⟩
 |p::ps,cells,carr,K,k,hc,h=>by
   simp only[j8,na] at h
   obtain⟨q,hq,h⟩:=aq h
   obtain⟨cs,hcs,hl,hfit,h⟩:=aq h
   obtain⟨vs,e1,e2,e3,e4⟩:=ab.cells hcs (hr.ev p.2)
   have hcl:carr.size=cells.length:=by simpa using hc.1
   obtain⟨carr',g1,g2,g3⟩:=qp (rest:=ps.map fun p=>(p.1,a.eval p.2)) (cells:=carr) hq e1 (by rw[e2,hl]) a6
   have hc':aP b₀ β s w (setAt cells q.1 cs) carr'.toList:=by
    refine⟨by simp[iQ,g2,hcl],fun j c hj=>?_⟩
    rw[mr] at hj
    rw[C2,g3]
    split at hj
    ·rename_i hin
     rw[if_pos a6]
     exact e3 _ c hj
    ·rename_i hin
     rw[if_neg a6]
     simpa using hc.2 j c hj
   obtain⟨cells'',carr'',f1,f2,f3⟩:=ni hr ps hc' h
   exact⟨cells'',carr'',f1,by simp only[j8];rw[g1];exact f2,f3⟩
theorem oL {N:Nat}{s:St}{a:Act} (hr:Rel b₀ N s β a w) {sz:Nat}:∀(ps:List (Nat×Operand)) {k:Nat}{arr:Array Value}{K:List C→Prop}{b:Box K},arr.size=(k+ps.length)*sz→
  rM sz k (ps.map fun p=>(p.1,s.ev p.2)) b→∃cs vs arr',K cs∧Instr.fill (fun i=>some (i*sz,sz)) arr (ps.map fun p=>(p.1,a.eval p.2))=some arr'∧arr'.size=arr.size∧aP b₀ β s w cs vs∧vs.length=ps.length*sz∧
   (∀j,j<k*sz→arr'[j]? = arr[j]?)∧∀(j:Nat) v,vs[j]? = some v→arr'[k*sz+j]? = some v
 |[],k,arr,K,b,hsz,h=>⟨[],[],arr,h,rfl,rfl,⟨rfl,fun _ _ h=>by simp at h⟩,a7,fun _ _=>rfl,fun _ _ h=>by simp at h⟩
 |p::ps,k,arr,K,b,hsz,h=>by
   simp only[j8,rM] at h
   obtain⟨hk,h⟩:=h
   obtain⟨cs,hcs,hl,h⟩:=aq h
   obtain⟨vs,e1,e2,e3,e4⟩:=ab.cells hcs (hr.ev p.2)
   have hmul:(k+(ps.length+1))*sz=k*sz+sz+ps.length*sz:=by rw[C0,C0];omega
   simp only[e8] at hsz
   rw[hmul] at hsz
   obtain⟨arr1,g1,g2,g3⟩:=qp (pl:=fun i=>some (i*sz,sz)) (i:=p.1) (v:=a.eval p.2) (rest:=ps.map fun p=>(p.1,a.eval p.2)) (cells:=arr) (by rw[hk]) e1 (by rw[e2,hl]) a6
   have hmul2:(k+1)*sz=k*sz+sz:=by rw[C0];omega
   obtain⟨rest,vr,arr2,f1,f2,f3,f4,f5,f6,f7⟩:=oL hr ps (k:=k+1) (arr:=arr1) (by rw[g2,hsz,C0,hmul2]) h
   have hvl:vs.length=sz:=by rw[e2,hl]
   refine⟨cs++rest,vs++vr,arr2,f1,by simp only[j8];rw[g1];exact f2,by rw[f3,g2],aP.append ⟨e2,e3⟩ f4,by simp[hvl,f5,C0];omega,fun j hj=>?_,fun j v hj=>?_⟩
   ·rw[f6 j a6,g3,if_neg a6]
   ·rw[E8] at hj
    split at hj
    ·rename_i hlt
     rw[hvl] at hlt
     rw[f6 _ a6,g3,if_pos a6,show k*sz+j-k*sz=j by omega]
     exact hj
    ·rename_i hlt
     have:=f7 _ v hj
     rw[hvl] at this hlt
     rw[hmul2,show k*sz+sz+(j-sz)=k*sz+j by omega] at this
     exact this
theorem ly (hT:aI P T) (hr:Rel b₀ N s β a w) {t i₀ d n:Nat} (hsl:cS T t=true) (hd:d<N) {ps:List (Nat×Operand)}
  (h:fE (aJ T t) (aS T t).size i₀ d n s (ps.map fun p=>(p.1,s.ev p.2)) k) :
  ∃s' β' w' cv,K s'∧(Instr.buildSlice t n (ps.map fun p=>(p.1,a.eval p.2)).toArray).run P w=.ok cv w'∧Rel b₀ N s' β' (a.put (some d) cv) w'∧Tr b₀ β s w β' s' w':=by
 obtain⟨e,he1,he2,hty,hte⟩:=cL hT hsl
 rw[he2,show aJ T t=e from by simp[aJ,he1]] at h
 obtain⟨inf,hi,hsz,hby,z,hz,hzc⟩:=hte.info
 have hzs:=hte.zsize hi hz
 obtain⟨hn,hbig0,h⟩:=h
 rw[b7] at hn
 have hbig:¬n*(T e).size>2^24:=a6
 have hf:∀arr:Array Value,arr.size=n*(T e).size→∃cs arr',K ((s.newC (e+1) i₀ cs).put (some d) (.one (.osl i₀ (nxC (e+1) (s.gen i₀)) (T e).size 0 n)))∧Instr.fill (fun i=>some (i*(T e).size,(T e).size)) arr (ps.map fun p=>(p.1,a.eval p.2))=some arr'∧aP b₀ β s w cs arr'.toList∧arr'.size=n*(T e).size:=fun arr harr=>by
  obtain⟨cs,vs,arr',f1,f2,f3,f4,f5,f6,f7⟩:=oL hr ps (k:=0) (arr:=arr) (by rw[harr,A3,hn]) h
  have hv:vs=arr'.toList:=by
   apply List.ext_getElem?
   intro j
   have e2:arr'.toList[j]? = arr'[j]?:=C2
   rw[e2]
   by_cases hj:j<vs.length
   ·have:=f7 j _ (p7 hj)
    rw[p7 hj,←this];simp
   ·rw[v8 a6,D9 (by rw[f3,harr,←hn,←f5];omega)]
  exact⟨cs,arr',f1,f2,hv▸f4,by rw[f3,harr]⟩
 have key:∃cs arr',K ((s.newC (e+1) i₀ cs).put (some d) (.one (.osl i₀ (nxC (e+1) (s.gen i₀)) (T e).size 0 n)))∧(Instr.buildSlice t n (ps.map fun p=>(p.1,a.eval p.2)).toArray).run P w=.ok (.slice (some ⟨w.heap.size,0,none⟩) n n) (w.alloc (.cells arr' e))∧aP b₀ β s w cs arr'.toList∧arr'.size=n*(T e).size:=by
  unfold Instr.buildSlice
  simp only[Sem.run_bind,run_underlying hty,aL hte,Result.andThen_ok,hbig,A1]
  by_cases h0:n*(T e).size=0
  ·obtain⟨cs,arr',f1,f2,f3,f4⟩:=hf ((Array.range (n*(T e).size)).map (fun x=>(#[]:Array Value)[x%(#[]:Array Value).size]!)) a7
   refine⟨cs,arr',f1,?_,f3,f4⟩
   simp only[h0,A9,Sem.run_bind,Sem.run_pure,Result.andThen_ok]
   rw[h0] at f2
   simp only[f2]
   simp[newRow]
  ·obtain⟨cs,arr',f1,f2,f3,f4⟩:=hf ((Array.range (n*(T e).size)).map (fun x=>z.cells[x%z.cells.size]!)) a7
   refine⟨cs,arr',f1,?_,f3,f4⟩
   simp only[h0,A1,Sem.run_bind,zeroValue,typeInfo,Sem.run_pure,run_program,Result.andThen_ok,hi,hz]
   simp only[f2]
   simp[newRow]
 obtain⟨cs,arr',f1,f2,f3,f4⟩:=key
 have hcl:cs.length=arr'.size:=by have:=f3.1;simpa using this.symm
 refine⟨_,upd β i₀ (some ⟨w.heap.size,0,none⟩),_,_,f1,f2,?_⟩
 exact oK (e+1) hr i₀ d hd (arr:=arr') (el:=e) rfl (by exact⟨rfl,rfl⟩) f3 (fun j v hv=>by simpa using hv) a6 (fun _ _=>rfl) _ _ _ (b9 _) a6
theorem ya (hr:Rel b₀ N s β a w) (i d:Nat) (hd:d<N) {el:TypeId}{arr:Array Value} (hc:aP b₀ β s w cs arr.toList) :
  Rel b₀ N ((s.newC (el+1) i cs).put (some d) (.one (.ptr i (nxC (el+1) (s.gen i)) 0))) (upd β i (some ⟨w.heap.size,0,none⟩)) (a.put (some d) (.pointer (some ⟨w.heap.size,0,none⟩))) (w.alloc (.cells arr el))∧
   Tr b₀ β s w (upd β i (some ⟨w.heap.size,0,none⟩)) ((s.newC (el+1) i cs).put (some d) (.one (.ptr i (nxC (el+1) (s.gen i)) 0))) (w.alloc (.cells arr el)):=by
 have hcl:cs.length=arr.size:=by have:=hc.1;simpa using this.symm
 obtain⟨h1,h2⟩:=Rel.new (w':=w.alloc (.cells arr el)) (el+1) hr i rfl ⟨rfl,rfl⟩ (cs:=cs) a6 (fun _ _=>rfl) (fun j c hj=>by simpa using hc.2 j c hj)
 refine⟨h1.put (fun d' hd'=>by cases hd';exact hd) ?_,h2.trans (Tr.same (St.put_gen _ _ _) (St.put_obj _ _ _) rfl)⟩
 simp only[ab,aj]
 refine⟨rfl,by simp[St.newC,upd],fun _ _=>⟨⟨w.heap.size,0,none⟩,by simp[upd],rfl,a7⟩⟩
end
end
end
section
attribute [local congr] Go.Am.ite_cc
section
def de (N:Nat) (l:List Oper):Bool:=l.all fun o=>match o.dst with|some d=>decide (d<N)|none=>true
def codeOk (N:Nat):Code→Bool
 |.region _ ops _=>de N ops.toList
 |.seq x y=>codeOk N x&&codeOk N y
 |.cond _ x y=>codeOk N x&&codeOk N y
 |.block _ c=>codeOk N c
 |.loop c=>codeOk N c
 |.scope c=>codeOk N c
 |.rangeFunc _ ps x y=>ps.toList.all (fun p=>decide (p<N))&&codeOk N x&&codeOk N y
 |_=>true
def qe (P:Program) (o:Oper) (s:St) (R:St→Prop):Prop:=∀(b₀:Bs) (N:Nat) (β:Loc) (a:Act) (w:World),Rel b₀ N s β a w→(∀d,o.dst=some d→d<N)→∀(next:Act→World→Prop) (Q:Exit→Act→World→Prop),
 (∀s' β' a' w',R s'→Rel b₀ N s' β' a' w'→Tr b₀ β s w β' s' w'→next a' w')→o.wp P a w next Q
def Bl (P:Program) (c:Code) (s:St) (R:Exit→St→Prop):Prop:=∀(b₀:Bs) (N:Nat) (β:Loc) (a:Act) (w:World),codeOk N c=true→Rel b₀ N s β a w→
 c.wp P (fun e a' w'=>∃s' β',R e s'∧Rel b₀ N s' β' a' w'∧Tr b₀ β s w β' s' w') a w
def al (s s₁:St):Prop:=∀(b₀:Bs) (N:Nat) (β:Loc) (a:Act) (w:World),Rel b₀ N s β a w→∃β',Rel b₀ N s₁ β' a w∧Tr b₀ β s w β' s₁ w
theorem al.refl (s:St):al s s:=fun _ _ β _ _ h=>⟨β,h,Tr.refl⟩
def spB (P:Program) (B:Nat):Sp:=⟨qe P,Bl P,al,B⟩
def sp (P:Program):Sp:=spB P 0
@[go_sem] theorem JY (P:Program):(sp P).base=0:=b8 rfl rfl
@[go_sem] theorem Ir (P:Program) (B:Nat):(spB P B).base=B:=b8 rfl rfl
variable {a:Act}{s:St}{N:Nat}{o:Oper}{Q:Exit→Act→World→Prop}{x:AV}{K:St→Prop}{next:Act→World→Prop}{w':World}{g:Nat→Nat}{ob:Obs}{v:Value}{l:List Oper}{ops:Array Oper}{k:Box K}
section
variable {P:Program}{T:Nat→TI}{b₀:Bs}{β:Loc}{w:World}{B:Nat}
theorem cC{cv:Value} (hrun:(execOp a.eval o).run P w=.ok (.value cv) w') (hn:next (a.put o.dst cv) w'):o.wp P a w next Q:=by
 unfold Oper.wp;rw[hrun];exact hn
theorem si (hrun:(execOp a.eval o).run P w=.ok .skip w') (hn:next (a.put o.dst undef) w'):o.wp P a w next Q:=by
 unfold Oper.wp;rw[hrun];exact hn
theorem bJ:ab b₀ β g ob w uv undef:=by
 simp only[ab,au];exact⟨[],rfl,rfl⟩
theorem vq {α:Type}{xs:Array α} (h:xs.size=1) (d:α):xs = #[xs.getD 0 d]:=by
 apply Array.ext
 ·simp[h]
 ·intro i h1 h2
  have:i=0:=a6
  subst this
  simp[Array.getD,h]
theorem nK {α:Type}{xs:Array α} (h:xs.size=2) (d:α):xs = #[xs.getD 0 d,xs.getD 1 d]:=by
 apply Array.ext
 ·simp[h]
 ·intro i h1 h2
  have:i=0∨i=1:=a6
  rcases this with rfl|rfl <;> simp[Array.getD,h]
theorem jH {d:TypeDesc}{f:Nat}{fl:Field} (h:dY d f=some fl):∃fs,d=.struct fs∧fs[f]? = some fl:=by
 cases d <;> simp[dY] at h
 exact⟨_,rfl,by simpa using h⟩
theorem jI (hT:aI P T) {fl:Field} (h1:okD (T fl.type).desc=true) (h2:(T fl.type).size≠0) (b o:Nat):(fieldPlace ⟨b,o,none⟩ fl).run P w=.ok ⟨b,o+fl.offset,none⟩ w:=by
 unfold fieldPlace
 rw[Sem.run_bind,aL (hT _ h1)]
 simp[h2,cq]
theorem mz (hT:aI P T){t f:Nat}{K:AV→Prop}{k:Box K} (h:em T t f s x k) (hv:ab b₀ β s.gen s.obj w x v) :
  ∃y cv,K y∧(∀w',Ext w w'→(Instr.fieldAt t v f).run P w'=.ok cv w')∧ab b₀ β s.gen s.obj w y cv:=by
 unfold em at h
 split at h
 ·rename_i id g off
  obtain⟨hg,ho,h⟩:=h
  obtain⟨fl,hfl,⟨h1,h2⟩,hK⟩:=aq h
  obtain⟨fs,hd,hf⟩:=jH hfl
  have hu:=(hT t Ot).desc
  rw[hd] at hu
  simp only[ab,aj] at hv
  obtain⟨ad,hβ,hsp,rfl⟩:=hv.2.2 hg ho
  refine⟨_,.pointer (some ⟨ad.block,ad.off+off+fl.offset,none⟩),hK,fun w' _=>?_,?_⟩
  ·simp[Instr.fieldAt,run_underlying hu,hf,Instr.sureAddr,jI hT h1 h2]
  ·exact M3
 ·rename_i cs
  obtain⟨fl,hfl,⟨h1,h2⟩,hK⟩:=aq h
  obtain⟨fs,hd,hf⟩:=jH hfl
  have hu:=(hT t Ot).desc
  rw[hd] at hu
  simp only[ab,aj] at hv
  cases hv with
  |iptr vals hJ hcl hrd=>
    rename_i b off
    refine⟨_,.pointer (some ⟨b,off+fl.offset,none⟩),hK,fun w' _=>?_,?_⟩
    ·simp[Instr.fieldAt,run_underlying hu,hf,Instr.sureAddr,jI hT h1 h2]
    ·simp only[ab,aj]
     refine .iptr (fun j=>vals (fl.offset+j)) (fun hne=>hJ (by rintro rfl;simp at hne)) (fun j x hx=>?_) (fun j x hx=>hrd _ x (by rw[A4] at hx;exact hx))
     rw[A4] at hx
     rw[z1];exact hcl _ x hx
 ·exact M4
theorem ig.part{cs:List C}{vs:Array Value} (h:ig b₀ β g ob w cs vs) {o n:Nat} (hfit:o+n≤cs.length):ab b₀ β g ob w (.agg ((cs.drop o).take n)) (.agg (vs.extract o (o+n))):=by
 simp only[ab]
 refine⟨_,rfl,by simp[h.1];omega,fun i c hc=>?_⟩
 rw[D5] at hc
 split at hc
 ·rename_i hi
  rw[A4] at hc
  obtain⟨u,hu,hr⟩:=h.2 _ c hc
  refine⟨u,?_,hr⟩
  rw[Array.getElem?_extract]
  have:i<min (o+n) vs.size-o:=by rw[h.1];omega
  rw[if_pos this];exact hu
 ·cases hc
theorem qZ (hT:aI P T){t f:Nat}{K:AV→Prop}{k:Box K} (h:mi T t f x k) (hv:ab b₀ β s.gen s.obj w x v) :
  ∃y cv,K y∧(∀w',Ext w w'→(Instr.field t v f).run P w'=.ok cv w')∧ab b₀ β s.gen s.obj w y cv:=by
 unfold mi at h
 split at h
 ·rename_i cs
  obtain⟨fl,hfl,h1,h⟩:=aq h
  obtain⟨fs,hd,hf⟩:=jH hfl
  have hu:=(hT t Ot).desc
  rw[hd] at hu
  have hty:=hT _ h1
  simp only[ab] at hv
  obtain⟨vs,rfl,hvs⟩:=hv
  unfold od at h
  split at h
  ·rename_i hagg
   refine⟨_,_,h.2,fun w' _=>?_,ig.part hvs h.1⟩
   simp[Instr.field,run_underlying hu,hf,asAgg,part,kb hty,hagg,aL hty]
  ·rename_i hagg
   obtain⟨c,hc,hK⟩:=aq h
   obtain⟨u,hu',hr⟩:=hvs.2 _ c hc
   refine⟨_,u,hK,fun w' _=>?_,by simpa only[ab] using hr⟩
   simp[Instr.field,run_underlying hu,hf,asAgg,part,kb hty,hagg,hu']
 ·exact M4
theorem nF{ox:Operand} (ho:o.op=.nilCheck ox){K:AV→Prop}{k:Box K} (h:ge s x k) (hv:ab b₀ β s.gen s.obj w x (a.eval ox)) :
  ∃y cv,K y∧(∀w',Ext w w'→(execOp a.eval o).run P w'=.ok (.value cv) w')∧ab b₀ β s.gen s.obj w y cv:=by
 have hv0:=hv
 unfold ge at h
 split at h
 ·obtain⟨hg,hob,hK⟩:=h
  simp only[ab,aj] at hv
  obtain⟨ad,hβ,hsp,he⟩:=hv.2.2 hg hob
  exact⟨_,_,hK,fun w' _=>by simp[execOp,ho,he],hv0⟩
 ·simp only[ab,aj] at hv
  generalize hg:a.eval ox=v at hv
  cases hv with
  |iptr vals hJ hcl hrd=>exact⟨_,.pointer (some ⟨_,_,none⟩),h,fun w' _=>by simp[execOp,ho,hg];exact⟨rfl,rfl⟩,by rw[hg] at hv0;exact hv0⟩
 ·exact M4
theorem au.get {g:Nat→Nat}{ob:Obs}:∀{ts:List AV}{vs:List Value}{i:Nat}{t:AV},au b₀ β g ob w ts vs→ts[i]? = some t→∃v,vs[i]? = some v∧ab b₀ β g ob w t v
 |[],_,_,_,_,h=>by simp at h
 |x::ts,vs,i,t,h,hi=>by
   simp only[au] at h
   obtain⟨u,us,rfl,h1,h2⟩:=h
   cases i with
   |zero=>simp at hi;subst hi;exact⟨u,rfl,h1⟩
   |succ i=>simpa using au.get h2 OU
theorem lz (hT:aI P T) {S:Sp} (hr:Rel b₀ N s β a w) (hp:cB T o.op=true) (h:opA S T o s k) :
  ∃y cv,K (s.put o.dst y)∧(∀w',Ext w w'→(execOp a.eval o).run P w'=.ok (.value cv) w')∧ab b₀ β s.gen s.obj w y cv:=by
 obtain⟨dst,op,ty,ps,af,gd⟩:=o
 cases op with
 |move x=>exact⟨_,_,h,fun _ _=>rfl,hr.ev x⟩
 |assign x=>exact⟨_,_,h,fun _ _=>rfl,hr.ev x⟩
 |pick c x y=>
   obtain⟨b,hb,hK⟩:=kF h (hr.ev c)
   refine⟨_,if b then a.eval x else a.eval y,hK,fun w' _=>?_,?_⟩
   ·simp[execOp,hb,asBool]
   ·cases b
    ·exact hr.ev y
    ·exact hr.ev x
 |load t x=>
   obtain⟨y,cv,h1,h2,h3⟩:=nf hT hr h (hr.ev x)
   exact M1
 |indexAddr t x ix=>
   have h:(bif kv (T t).desc then jp T (T t).desc s (s.ev x) (s.ev ix) (bx fun v=>K (s.put dst v)) else cS T t=true∧ei s (aS T t).size (s.ev x) (s.ev ix) (bx fun v=>K (s.put dst v))):=by cases x <;> first|exact h|(simp[cB] at hp;done)
   cases ha:kv (T t).desc with
   |true=>
     rw[ha,L2] at h
     obtain⟨y,cv,h1,h2,h3⟩:=oD hT h (hr.ev x) (hr.ev ix)
     exact M1
   |false=>
     rw[ha,L1] at h
     obtain⟨y,cv,h1,h2,h3⟩:=ml hT h.1 h.2 (hr.ev x) (hr.ev ix)
     exact M1
 |index t x ix=>
   have hu:=(hT t (by rw[dP h.1];rfl)).desc
   rw[dP h.1] at hu
   obtain⟨y,cv,h1,h2,h3⟩:=qR (s:=s) hu h.2 (hr.ev x) (hr.ev ix)
   exact M1
 |binOp bo t x y u=>
   obtain⟨z,cv,h1,h2,h3⟩:=ub hT h (hr.ev x) (hr.ev y) x y
   refine⟨z,cv,h1,fun w' hw'=>?_,h3⟩
   simp only[execOp]
   rw[Sem.run_bind,h2 w' hw']
   rfl
 |unOp uo t x=>
   have h:unA uo (s.ev x) (bx fun v=>K (s.put dst v)):=h
   obtain⟨z,cv,h1,h2,h3⟩:=wA (P:=P) h (hr.ev x)
   exact Mq
 |convert t u x=>
   have hns:isSlice (T u).desc=false:=by simpa[cB] using hp
   have h:(bif isSlice (T u).desc then iH T t u S.base dst s (s.ev x) k else mY s (aS T t).desc (T t).desc (T u).desc (s.ev x) (bx fun v=>K (s.put dst v))):=h
   rw[hns,L1] at h
   obtain⟨z,cv,h1,h2,h3⟩:=sg hT hr h (hr.ev x)
   exact Mq
 |slice t x lo hi mx=>
   cases mx with
   |some _=>simp[cB] at hp
   |none=>
     have e1:qV b₀ β s.gen s.obj w (lo.map s.ev) (lo.map a.eval):=by cases lo;exact .none;exact .some (hr.ev _)
     have e2:qV b₀ β s.gen s.obj w (hi.map s.ev) (hi.map a.eval):=by cases hi;exact .none;exact .some (hr.ev _)
     have h:(bif kv (T t).desc then gX T (T t).desc s (s.ev x) (lo.map s.ev) (hi.map s.ev) (bx fun v=>K (s.put dst v)) else mh s (isStr (T t).desc) (cS T t) (aS T t).size (s.ev x) (lo.map s.ev) (hi.map s.ev) (bx fun v=>K (s.put dst v))):=h
     cases ha:kv (T t).desc with
     |true=>
       rw[ha,L2] at h
       obtain⟨z,cv,h1,h2,h3⟩:=nD hT (fun id cs ad h1 h2 h3 arr el fr h4=>by
        have h5:=hr.obj id cs h1
        rw[h2] at h5
        obtain⟨_,arr',el',_,_,h6,_,h7,_⟩:=h5.cells h3
        rw[h4] at h6;cases h6
        exact h7) h (hr.ev x) e1 e2
       exact Mq
     |false=>
       rw[ha,L1] at h
       obtain⟨z,cv,h1,h2,h3⟩:=qW hT h (hr.ev x) e1 e2
       exact Mq
 |fieldAddr t x f=>
   have h:em T t f s (s.ev x) (bx fun v=>K (s.put dst v)):=h
   obtain⟨z,cv,h1,h2,h3⟩:=mz hT h (hr.ev x)
   exact Mq
 |field t x f=>
   have h:mi T t f (s.ev x) (bx fun v=>K (s.put dst v)):=h
   obtain⟨z,cv,h1,h2,h3⟩:=qZ hT h (hr.ev x)
   exact Mq
 |lookup t x ix ok=>
   have h:nI T t s (s.ev x) (s.ev ix) ok (bx fun v=>K (s.put dst v)):=h
   obtain⟨z,cv,h1,h2,h3⟩:=pN hT hr h (hr.ev x) (hr.ev ix)
   exact Mq
 |makeFunc fn first caps=>
   cases fn with
   |func f=>
     have h:gf f (first.toList.map s.ev) (caps.toList.map s.ev) (bx fun v=>K (s.put dst v)):=h
     obtain⟨z,cv,h1,h2,h3⟩:=nC (P:=P) hr h
     exact Mq
   |_=>simp[cB] at hp
 |nilCheck x=>
   have h:ge s (s.ev x) (bx fun v=>K (s.put dst v)):=h
   exact nF rfl h (hr.ev x)
 |extract x i=>
   have h:jr (s.ev x) i (bx fun v=>K (s.put dst v)):=h
   have hx:=hr.ev x
   unfold jr at h
   split at h
   ·rename_i ts he
    obtain⟨t,ht,hK⟩:=aq h
    rw[he] at hx
    simp only[ab] at hx
    obtain⟨vs,hv,hvs⟩:=hx
    obtain⟨v,hv1,hv2⟩:=hvs.get ht
    exact⟨_,v,hK,fun w' _=>by simp[execOp,hv,Instr.extract,hv1],hv2⟩
   ·exact M4
 |build t ps=>
   have h:fP T t (ps.toList.map fun p=>(p.1,s.ev p.2)) (bx fun v=>K (s.put dst v)):=h
   obtain⟨hst,h⟩:=h
   obtain hd':(∃fs,(T t).desc=.struct fs∧∀f∈fs.toList,okD (T f.type).desc=true)∨∃n e,(T t).desc=.array n e∧okD (T e).desc=true:=by
    unfold iF at hst
    split at hst
    ·rename_i fs hq;exact .inl ⟨fs,hq,l7.1 hst⟩
    ·rename_i n e hq;exact .inr ⟨n,e,hq,hst⟩
    ·cases hst
   have hty:=hT t (by rcases hd' with⟨_,hd,_⟩|⟨_,_,hd,_⟩ <;> rw[hd] <;> rfl)
   have hu:=hty.desc
   obtain⟨inf,hi,hsz,hby,z,hz,hzc⟩:=hty.info
   have hc0:aP b₀ β s w ((T t).zero.map .d) z.cells.toList:=by
    refine⟨by rw[hzc];simp,fun j c hc=>?_⟩
    rw[hzc]
    rw[l8] at hc ⊢
    cases hq:(T t).zero[j]? with
    |none=>rw[hq] at hc;cases hc
    |some x=>
      exact MJ
   obtain⟨cells,carr,hK,hf,hc⟩:=ni hr ps.toList hc0 h
   refine⟨_,.agg carr,hK,fun w' _=>?_,by simp only[ab];exact⟨_,rfl,by simpa using hc.1,fun i c hi=>by simpa using hc.2 i c hi⟩⟩
   have hps:(ps.map fun x=>(x.1,a.eval x.2))=(ps.toList.map fun p=>(p.1,a.eval p.2)).toArray:=E5 a7
   simp only[execOp,Sem.run_bind]
   rw[show (ps.map fun(i,x)=>(i,a.eval x))=(ps.toList.map fun p=>(p.1,a.eval p.2)).toArray from hps]
   unfold Instr.build
   rcases hd' with⟨fs,hd,hall⟩|⟨n,e,hd,hoe⟩
   ·rw[hd] at hu
    have hpl:∀l:List Field,(∀f∈l,okD (T f.type).desc=true)→(l.mapM fun f=>do pure (f.offset,←sizeOf f.type):Sem (List (Nat×Nat))).run P w'=.ok (l.map fun f=>(f.offset,(T f.type).size)) w':=by
     intro l
     induction l with
     |nil=>intro _;simp
     |cons f l ih=>
       intro h
       have hf:=aL (P:=P) (w:=w') (hT _ (h f a7))
       simp only[J6,Sem.run_bind,hf,Result.andThen_ok,Sem.run_pure,ih (fun f hf=>h f (by simp[hf])),j8]
    have hfe:(fun i=>((fs.toList.map fun f=>(f.offset,(T f.type).size)).toArray)[i]?)=placeOf T (T t).desc:=by
     funext i
     rw[hd]
     simp only[placeOf,dY,y2,l8,C2]
     cases hq:fs[i]? with
     |none=>rfl
     |some fl=>
       have:okD (T fl.type).desc=true:=hall fl (by have:=LX hq;simpa using this)
       simp[this]
    simp only[Sem.run_bind,zeroValue,typeInfo,run_program,Sem.run_pure,Result.andThen_ok,hi,hz,run_underlying hu]
    have hm:=hpl fs.toList hall
    rw[←Array.toArray_toList (xs:=fs),LM,Sem.run_map,hm]
    simp only[Result.andThen_ok]
    rw[hfe,hf]
    simp
   ·rw[hd] at hu
    have hte:=aL (P:=P) (w:=w') (hT e hoe)
    have hfe:(fun i=>some (i*(T e).size,(T e).size))=placeOf T (T t).desc:=by
     funext i
     rw[hd]
     rfl
    simp only[Sem.run_bind,zeroValue,typeInfo,run_program,Sem.run_pure,Result.andThen_ok,hi,hz,run_underlying hu,hte]
    rw[hfe,hf]
    simp
 |call c=>
   simp only[cB] at hp
   split at hp
   ·rename_i hc
    obtain⟨callee,args,tys⟩:=c
    simp only at hc
    subst hc
    have h:(args.size=1∧tys.size=1)∧qH s (isStr (T (tys.getD 0 0)).desc) (cS T (tys.getD 0 0)) (s.ev (args.getD 0 (.const .nilFunc))) (bx fun v=>K (s.put dst v)):=h
    obtain⟨⟨ha,ht⟩,h⟩:=h
    obtain⟨z,cv,h1,h2,h3⟩:=uc (ty:=ty) hT h (hr.ev (args.getD 0 (.const .nilFunc)))
    refine⟨z,cv,h1,fun w' hw'=>?_,h3⟩
    have h2:=h2 w' hw'
    rw[vq ha (.const .nilFunc),vq ht 0]
    generalize args.getD 0 (.const .nilFunc)=x0 at *
    generalize tys.getD 0 0=t0 at *
    simp[execOp,resolve,invoke,builtin,h2]
   ·rename_i hc
    obtain⟨callee,args,tys⟩:=c
    simp only at hc
    subst hc
    have h:args.size=2∧mxA true (s.ev (args.getD 0 (.const .nilFunc))) (s.ev (args.getD 1 (.const .nilFunc))) (bx fun v=>K (s.put dst v)):=h
    obtain⟨ha,h⟩:=h
    rw[nK ha (.const .nilFunc)]
    generalize args.getD 0 (.const .nilFunc)=x0 at *
    generalize args.getD 1 (.const .nilFunc)=x1 at *
    have e0:=hr.ev x0
    have e1:=hr.ev x1
    unfold mxA at h
    split at h
    ·rename_i k1 n1 k2 n2 he0 he1
     rw[he0] at e0;rw[he1] at e1
     simp only[ab,aj] at e0 e1
     have e0:=e0.inv_int
     have e1:=e1.inv_int
     refine⟨_,.int k1 (max n1 n2),h,fun w' _=>?_,by simp only[ab,aj];exact .int _ _⟩
     simp[execOp,resolve,invoke,builtin,Builtin.max_,Builtin.max2,e0,e1]
     omega
    ·exact M4
   ·rename_i hc
    obtain⟨callee,args,tys⟩:=c
    simp only at hc
    subst hc
    have h:args.size=2∧mxA false (s.ev (args.getD 0 (.const .nilFunc))) (s.ev (args.getD 1 (.const .nilFunc))) (bx fun v=>K (s.put dst v)):=h
    obtain⟨ha,h⟩:=h
    rw[nK ha (.const .nilFunc)]
    generalize args.getD 0 (.const .nilFunc)=x0 at *
    generalize args.getD 1 (.const .nilFunc)=x1 at *
    have e0:=hr.ev x0
    have e1:=hr.ev x1
    unfold mxA at h
    split at h
    ·rename_i k1 n1 k2 n2 he0 he1
     rw[he0] at e0;rw[he1] at e1
     simp only[ab,aj] at e0 e1
     have e0:=e0.inv_int
     have e1:=e1.inv_int
     refine⟨_,.int k1 (min n1 n2),h,fun w' _=>?_,by simp only[ab,aj];exact .int _ _⟩
     simp[execOp,resolve,invoke,builtin,Builtin.min_,Builtin.min2,e0,e1]
     omega
    ·exact M4
   ·cases hp
 |_=>simp[cB] at hp
theorem io (hT:aI P T) (hr:Rel b₀ N s β a w) (hd:∀d,o.dst=some d→d<N) (h:opA (spB P B) T o s k)
 (hn:∀s' β' a' w',K s'→Rel b₀ N s' β' a' w'→Tr b₀ β s w β' s' w'→next a' w'):o.wp P a w next Q:=by
 by_cases hp:cB T o.op=true
 ·obtain⟨y,cv,h1,h2,h3⟩:=lz hT hr hp h
  exact cC (h2 w .refl) (hn _ _ _ _ h1 (hr.put hd h3) (Tr.same (St.put_gen _ _ _) (St.put_obj _ _ _) rfl))
 ·have hhook:br (spB P B) o s k→o.wp P a w next Q:=fun⟨R,hR,hK⟩=>hR b₀ N β a w hr hd next Q (fun s' β' a' w' hs=>hn s' β' a' w' (hK s' hs))
  obtain⟨dst,op,ty,ps,af,gd⟩:=o
  cases op with
  |store t x y=>
    have h:kC (T t) s (s.ev x) (s.ev y) (bx fun s'=>K (s'.put dst uv)):=h
    obtain⟨s',w',h1,h2,h3,h4⟩:=lu hT hr h (hr.ev x) (hr.ev y)
    refine si (w':=w') (by simp[execOp,h2]) (hn _ _ _ _ h1 (h3.put hd bJ) (h4.trans (Tr.same (St.put_gen _ _ _) (St.put_obj _ _ _) rfl)))
  |buildSlice t n p=>
    cases dst with
    |none=>exact hhook h
    |some d=>
      have h:cS T t=true∧fE (aJ T t) (aS T t).size (B+d) d n s (p.toList.map fun p=>(p.1,s.ev p.2)) k:=h
      obtain⟨s',β',w',cv,h1,h2,h3,h4⟩:=ly hT hr h.1 (hd d rfl) h.2
      refine cC ?_ (hn _ _ _ _ h1 h3 h4)
      have:(p.map fun x=>(x.1,a.eval x.2))=(p.toList.map fun p=>(p.1,a.eval p.2)).toArray:=E5 a7
      simp only[execOp,Sem.run_bind]
      rw[show (p.map fun(i,x)=>(i,a.eval x))=(p.toList.map fun p=>(p.1,a.eval p.2)).toArray from this,h2]
      rfl
  |box t x=>
    cases dst with
    |none=>exact hhook h
    |some d=>
      have h:AE t (B+d) d s (s.ev x) k:=h
      obtain⟨cs,hcs,hK⟩:=aq h
      obtain⟨vs,e1,e2,e3,e4⟩:=ab.cells hcs (hr.ev x)
      obtain⟨r1,r2⟩:=ya hr (B+d) d (hd d rfl) (el:=t) (cs:=cs) (arr:=vs.toArray) ⟨by simpa using e2,fun j c hc=>by simpa using e3 j c hc⟩
      exact cC (by simp[execOp,Instr.box,newVar,newRow,e1]) (hn _ _ _ _ hK r1 r2)
  |alloc t=>
    cases dst with
    |none=>exact hhook h
    |some d=>
      have h:qI t (T t) (B+d) d s k:=h
      obtain⟨hok,hK⟩:=h
      have hty:=hT t hok
      obtain⟨inf,hi,hsz,hby,z,hz,hzc⟩:=hty.info
      have hc0:aP b₀ β s w ((T t).zero.map .d) z.cells.toList:=by
       refine⟨by rw[hzc];simp,fun j c hc=>?_⟩
       rw[hzc]
       rw[l8] at hc ⊢
       cases hq:(T t).zero[j]? with
       |none=>rw[hq] at hc;cases hc
       |some x=>
         exact MJ
      obtain⟨r1,r2⟩:=ya hr (B+d) d (hd d rfl) (el:=t) hc0
      exact cC (by simp[execOp,Instr.alloc,newVar,newRow,zeroValue,typeInfo,hi,hz]) (hn _ _ _ _ hK r1 r2)
  |makeSlice t l c=>
    cases dst with
    |none=>exact hhook h
    |some d=>
      have h:cS T t=true∧fj (aJ T t) (aS T t) (B+d) d s (s.ev l) (s.ev c) k:=h
      obtain⟨s',β',w',cv,h1,h2,h3,h4⟩:=my hT hr h.1 (hd d rfl) h.2 (hr.ev l) (hr.ev c)
      exact NO
  |call c=>
    obtain⟨callee,args,tys⟩:=c
    cases callee with
    |value f=>exact hhook h
    |invoke r m=>exact hhook h
    |builtin b=>
      cases b
      case append=>
       cases dst with
       |none=>exact hhook h
       |some d=>
         have h:(args.size=2∧tys.size=2)∧cS T (tys.getD 0 0)=true∧iE (aJ T (tys.getD 0 0)) (aS T (tys.getD 0 0)) (isStr (T (tys.getD 1 0)).desc) (cS T (tys.getD 1 0)) (B+d) d s (s.ev (args.getD 0 (.const .nilFunc))) (s.ev (args.getD 1 (.const .nilFunc))) k:=h
         obtain⟨⟨ha,ht⟩,hsl,h⟩:=h
         obtain⟨s',β',w',cv,h1,h2,h3,h4⟩:=pU hT hr hsl (hd d rfl) h (hr.ev _) (hr.ev _) ty
         refine cC ?_ (hn _ _ _ _ h1 h3 h4)
         rw[nK ha (.const .nilFunc),nK ht 0]
         generalize args.getD 0 (.const .nilFunc)=x0 at *
         generalize tys.getD 0 0=t0 at *
         generalize args.getD 1 (.const .nilFunc)=x1 at *
         generalize tys.getD 1 0=t1 at *
         simp[execOp,resolve,invoke,builtin,h2]
      case len=>exact absurd rfl hp
      case max=>exact absurd rfl hp
      case min=>exact absurd rfl hp
      all_goals exact hhook h
  |slice t x lo hi mx=>
    cases mx with
    |none=>exact absurd rfl hp
    |some m=>exact hhook h
  |lookup=>exact absurd rfl hp
  |makeFunc fn first caps=>
    cases fn with
    |func f=>exact absurd rfl hp
    |_=>exact hhook h
  |makeMap t res=>
    cases res with
    |some _=>exact hhook h
    |none=>
      cases dst with
      |none=>exact hhook h
      |some d=>
        have h:lf T t (B+d) d s k:=h
        obtain⟨s',β',w',cv,h1,h2,h3,h4⟩:=oJ (P:=P) hr (hd d rfl) h
        exact NO
  |mapUpdate t m ix x=>
    have h:iG T t s (s.ev m) (s.ev ix) (s.ev x) (bx fun s'=>K (s'.put dst uv)):=h
    obtain⟨s',w',h1,h2,h3,h4⟩:=mv hT hr h (hr.ev m) (hr.ev ix) (hr.ev x)
    exact si (w':=w') (by simp[execOp,h2]) (hn _ _ _ _ h1 (h3.put hd bJ) (h4.trans (Tr.same (St.put_gen _ _ _) (St.put_obj _ _ _) rfl)))
  |move=>exact absurd rfl hp
  |assign=>exact absurd rfl hp
  |pick=>exact absurd rfl hp
  |load=>exact absurd rfl hp
  |indexAddr t x ix=>cases x <;> first|exact hhook h|exact absurd rfl hp
  |index=>exact absurd rfl hp
  |binOp=>exact absurd rfl hp
  |unOp=>exact absurd rfl hp
  |convert t u x=>
    have hns:isSlice (T u).desc=true:=by simpa[cB] using hp
    have h:(bif isSlice (T u).desc then iH T t u B dst s (s.ev x) k else mY s (aS T t).desc (T t).desc (T u).desc (s.ev x) (bx fun v=>K (s.put dst v))):=h
    rw[hns,L2] at h
    obtain⟨s',β',w',cv,h1,h2,h3,h4⟩:=pT hT hr hd h (hr.ev x)
    exact NO
  |fieldAddr=>exact absurd rfl hp
  |field=>exact absurd rfl hp
  |build=>exact absurd rfl hp
  |nilCheck=>exact absurd rfl hp
  |extract=>exact absurd rfl hp
  |_=>exact hhook h
theorem fH (h:de N (o::l)=true):(∀d,o.dst=some d→d<N)∧de N l=true:=by
 simp only[de,w8,l5] at h ⊢
 refine⟨fun d hd=>?_,h.2⟩
 have:=h.1
 rw[hd] at this
 simpa using this
theorem ab.inv_bool {g:Nat→Nat}{ob:Obs}{b:Bool}{v:Value} (h:ab b₀ β g ob w (bv b) v):v=.bool b:=by
 simp only[ab,aj] at h;exact h.inv_bool
theorem ab.inv_uv (h:ab b₀ β g ob w uv v):v=undef:=by
 simp only[ab,au] at h
 obtain⟨vs,rfl,rfl⟩:=h
 rfl
theorem Rel.reput (hr:Rel b₀ N s β a w) {d:Nat} (hx:s.f d=x):Rel b₀ N { s with f:=upd s.f d x } β a w:=by
 have:upd s.f d x=s.f:=by funext j;simp only[upd];split <;> simp_all
 rw[this];exact hr
theorem Rel.yielded {N:Nat}{s:St}{a:Act} (hr:Rel b₀ N s β a w) {ops:Array Oper}{j d:Nat} (hj:(ops[j]?).bind (·.dst)=some d) {b:Bool} (hx:s.f d=bv b):Go.yielded ops a.tmps j=some b:=by
 have hv:=hr.f d
 rw[hx] at hv
 have hv:=hv.inv_bool
 unfold Go.yielded
 rw[hj]
 simp only[D6]
 rw[j7] at hv
 cases h:a.tmps[d]? with
 |none=>rw[h] at hv;simp[undef] at hv
 |some v=>rw[h] at hv;simp at hv;rw[hv]
theorem Rel.yielded_u (hr:Rel b₀ N s β a w){j d:Nat} (hj:(ops[j]?).bind (·.dst)=some d) (hx:s.f d=uv):Go.yielded ops a.tmps j=none:=by
 have hv:=hr.f d
 rw[hx] at hv
 have hv:=hv.inv_uv
 unfold Go.yielded
 rw[hj]
 simp only[D6]
 rw[j7] at hv
 cases h:a.tmps[d]? with
 |none=>rfl
 |some v=>rw[h] at hv;simp at hv;rw[hv];rfl
theorem gh (hT:aI P T) {N:Nat}{ops:Array Oper}{Q:Exit→Act→World→Prop}{K:St→Prop}{k:Box K}:∀(l:List Oper) {s:St}{β:Loc}{a:Act}{w:World},Rel b₀ N s β a w→de N l=true→wpO (spB P B) T ops l s k→
  (∀s' β' a' w',K s'→Rel b₀ N s' β' a' w'→Tr b₀ β s w β' s' w'→Q .normal a' w')→wpList P ops Q l a w
 |[],s,β,a,w,hr,_,h,hQ=>hQ s β a w h hr Tr.refl
 |o::rest,s,β,a,w,hr,hds,h,hQ=>by
   obtain⟨hd,hds'⟩:=fH hds
   unfold wpO at h
   unfold wpList
   cases hg:o.guard with
   |none=>
     rw[hg] at h
     simp only at h
     rw[if_pos (by simp[Region.wanted,hg])]
     exact .inl (io hT hr hd h (fun s' β' a' w' h1 h2 h3=>gh hT rest h2 hds' h1 (fun s2 β2 a2 w2 k1 k2 k3=>hQ _ _ _ _ k1 k2 (h3.trans k3))))
   |some p=>
     obtain⟨j,want⟩:=p
     rw[hg] at h
     simp only at h
     obtain⟨d,hj,h⟩:=aq h
     unfold iD at h
     split at h
     ·rename_i b hb
      have hy:=hr.yielded hj hb
      have h:=fy h
      have hr':=hr.reput hb
      by_cases hw:b=want
      ·rw[if_pos hw] at h
       rw[if_pos Oh]
       exact .inl (io hT hr' hd h (fun s' β' a' w' h1 h2 h3=>gh hT rest h2 hds' h1 (fun s2 β2 a2 w2 k1 k2 k3=>hQ _ _ _ _ k1 k2 (Tr.trans ⟨h3.size,h3.old,h3.keep,h3.os⟩ k3))))
      ·rw[if_neg hw] at h
       rw[if_neg Oh]
       have hp:=hr'.put hd (x:=uv) (v:=undef) bJ
       exact M9
     ·rename_i hb
      have hy:=hr.yielded_u hj hb
      rw[if_neg OH]
      have hp:=hr.put hd (x:=uv) (v:=undef) bJ
      exact M9
     ·exact M4
theorem dQ (hT:aI P T) {N:Nat}{ops:Array Oper}{Q:Act→Prop}{K:St→Prop}{k:Box K} (more:List Oper):∀(l:List Oper) {s:St}{a:Act},Rel b₀ N s β a w→de N l=true→l.all (cB T ·.op)=true→wpO (spB P B) T ops (l++more) s k→
  (∀s' a',wpO (spB P B) T ops more s' k→Rel b₀ N s' β a' w→Tr b₀ β s w β s' w→Q a')→wpStill P ops w Q l a
 |[],s,a,hr,_,_,h,hQ=>hQ s a h hr Tr.refl
 |o::rest,s,a,hr,hds,hp,h,hQ=>by
   obtain⟨hd,hds'⟩:=fH hds
   simp only[w8,l5] at hp
   rw[A5] at h
   unfold wpO at h
   unfold wpStill
   have hop:∀{s0:St},Rel b₀ N s0 β a w→Tr b₀ β s w β s0 w→opA (spB P B) T o s0 (bx fun s'=>wpO (spB P B) T ops (rest++more) s' k)→o.still P a w (wpStill P ops w Q rest):=fun {s0} hr0 ht0 h0=>by
    obtain⟨y,cv,h1,h2,h3⟩:=lz hT hr0 hp.1 h0
    unfold Oper.still
    rw[h2 w .refl]
    refine⟨rfl,dQ hT more rest (hr0.put hd h3) hds' hp.2 h1 (fun s' a' k1 k2 k3=>hQ s' a' k1 k2 (ht0.trans (Tr.trans (Tr.same (St.put_gen _ _ _) (St.put_obj _ _ _) rfl) k3)))⟩
   cases hg:o.guard with
   |none=>
     exact Nr
   |some p=>
     obtain⟨j,want⟩:=p
     rw[hg] at h
     simp only at h
     obtain⟨d,hj,h⟩:=aq h
     unfold iD at h
     split at h
     ·rename_i b hb
      have hy:=hr.yielded hj hb
      have h:=fy h
      have hr':=hr.reput hb
      by_cases hw:b=want
      ·exact Nh
      ·rw[if_neg hw] at h
       rw[if_neg Oh]
       have hp':=hr'.put hd (x:=uv) (v:=undef) bJ
       exact Na
     ·rename_i hb
      have hy:=hr.yielded_u hj hb
      rw[if_neg OH]
      have hp':=hr.put hd (x:=uv) (v:=undef) bJ
      exact Na
     ·exact M4
theorem nj (h:de N l=true) (n:Nat):de N (l.take n)=true∧de N (l.drop n)=true:=by
 unfold de at *
 rw[l7] at h
 exact⟨l7.2 fun x hx=>h x (G4 hx),l7.2 fun x hx=>h x (H6 hx)⟩
theorem sj (hT:aI P T) (hr:Rel b₀ N s β a w) (hd:de N l=true) (h:wpO (spB P B) T ops l s k)
  (hQ:∀s' β' a' w',K s'→Rel b₀ N s' β' a' w'→Tr b₀ β s w β' s' w'→Q .normal a' w'):wpList P ops Q l a w:=gh hT l hr hd h hQ
theorem lA (hT:aI P T) (hm:P.follows .mixedOrders=true) {N id:Nat} (hr:Rel b₀ N s β a w) (hd:de N ops.toList=true) (hok:js T ops=true)
  (h:wpO (spB P B) T ops ops.toList s k) (hQ:∀s' β' a' w',K s'→Rel b₀ N s' β' a' w'→Tr b₀ β s w β' s' w'→Q .normal a' w'):(Code.region id ops true).wp P Q a w:=by
 have hr1:Rel b₀ N s β a { w with drawn:=w.drawn+1 }:=hr.of_heap rfl
 have ht1:Tr b₀ β s w β s { w with drawn:=w.drawn+1 }:=Tr.same rfl rfl rfl
 simp only[js,B1,l5,K0] at hok
 rcases hok with⟨hp,hB⟩|⟨n,_,hp,hB⟩
 ·refine wp_region_still hm hB (dQ hT [] ops.toList hr1 hd hp (by rw[y1];exact h) (fun s' a' k1 k2 k3=>hQ _ _ _ _ k1 k2 (ht1.trans k3)))
 ·have hl:=wp_region_still_tail (P:=P) (id:=id) (Q:=Q) (a:=a) (w:=w) (l:=ops.toList) (ops.size-n) hm (by simpa using hB) ?_
  ·simpa using hl
  ·obtain⟨d1,d2⟩:=nj hd (ops.size-n)
   refine dQ hT (ops.toList.drop (ops.size-n)) (ops.toList.take (ops.size-n)) hr1 d1 hp (by rw[E3];simpa using h) (fun s' a' k1 k2 k3=>?_)
   exact sj hT k2 d2 k1 (fun s2 β2 a2 w2 j1 j2 j3=>hQ _ _ _ _ j1 j2 (ht1.trans (k3.trans j3)))
def wK (b₀:Bs) (N:Nat) (β:Loc) (s:St) (w:World) (Q:Exit→St→Prop) (e:Exit) (a':Act) (w':World):Prop:=∃s' β',Q e s'∧Rel b₀ N s' β' a' w'∧Tr b₀ β s w β' s' w'
theorem wK.of{s s1:St}{β1:Loc}{w1:World}{Q Q':Exit→St→Prop}{e:Exit}{a':Act} (ht:Tr b₀ β s w β1 s1 w1) (h:wK b₀ N β1 s1 w1 Q e a' w') (hq:∀s',Q e s'→Q' e s'):wK b₀ N β s w Q' e a' w':=
 let ⟨s',β',h1,h2,h3⟩:=h
 ⟨s',β',hq _ h1,h2,ht.trans h3⟩
theorem cV (hT:aI P T) (hm:P.follows .mixedOrders=true) {N:Nat}:∀(c:Code) {Q:Exit→St→Prop}{q:Box Q}{s:St}{β:Loc}{a:Act}{w:World},codeOk N c=true→Rel b₀ N s β a w→wpC (spB P B) T c q s→c.wp P (wK b₀ N β s w Q) a w
 |.skip,_,_,s,β,_,_,_,hr,h=>wp_skip ⟨s,β,h,hr,Tr.refl⟩
 |.label _,_,_,s,β,_,_,_,hr,h=>wp_label ⟨s,β,h,hr,Tr.refl⟩
 |.exit _,_,_,s,β,_,_,_,hr,h=>wp_exit ⟨s,β,h,hr,Tr.refl⟩
 |.goto _,_,_,s,β,_,_,_,hr,h=>wp_goto ⟨s,β,h,hr,Tr.refl⟩
 |.ret,_,_,s,β,_,_,_,hr,h=>wp_ret ⟨s,β,h,hr,Tr.refl⟩
 |.region id ops b,Q,q,s,β,a,w,hc,hr,h=>by
   cases b with
   |false=>
     have h:wpO (spB P B) T ops ops.toList s (bx fun s'=>Q .normal s'):=h
     refine wp_region ?_
     have:=wpOps_eq_wpList (P:=P) (ops:=ops) (Q:=wK b₀ N β s w Q) ops.toList 0 a7
     rw[←List.range_eq_range',H9] at this
     rw[this]
     exact gh hT ops.toList hr hc h (fun s' β' a' w' h1 h2 h3=>⟨s',β',h1,h2,h3⟩)
   |true=>
     rcases h with⟨hok,h⟩|⟨R,hR,hK⟩
     ·exact lA hT hm hr hc hok h (fun s' β' a' w' h1 h2 h3=>⟨s',β',h1,h2,h3⟩)
     ·exact MQ
 |.seq x y,Q,q,s,β,a,w,hc,hr,h=>by
   simp only[codeOk,l5] at hc
   have h:wpC (spB P B) T x (bx (gD (bx fun s'=>wpC (spB P B) T y q s') q)) s:=h
   refine wp_seq (wp_mono (cV hT hm x hc.1 hr h) (fun e a' w' hp=>?_))
   obtain⟨s',β',h1,h2,h3⟩:=hp
   cases e with
   |normal=>exact wp_mono (cV hT hm y hc.2 h2 h1) (fun e a2 w2 hp=>wK.of h3 hp (fun _ h=>h))
   |_=>exact⟨s',β',h1,h2,h3⟩
 |.cond c x y,Q,q,s,β,a,w,hc,hr,h=>by
   simp only[codeOk,l5] at hc
   obtain⟨b,hb,h⟩:=kF h (hr.ev c)
   refine wp_cond hb ?_
   cases b
   ·exact cV hT hm y hc.2 hr h
   ·exact cV hT hm x hc.1 hr h
 |.block id c,Q,q,s,β,a,w,hc,hr,h=>by
   have h:wpC (spB P B) T c (bx (eL id q)) s:=h
   refine wp_block (wp_mono (cV hT hm c hc hr h) (fun e a' w' hp=>?_))
   obtain⟨s',β',h1,h2,h3⟩:=hp
   cases e with
   |exit i=>
     simp only[Exit.inBlock,eL] at h1 ⊢
     split at h1
     ·rename_i he;rw[if_pos he];exact⟨s',β',h1,h2,h3⟩
     ·rename_i he;rw[if_neg he];exact⟨s',β',h1,h2,h3⟩
   |_=>exact⟨s',β',h1,h2,h3⟩
 |.scope c,Q,q,s,β,a,w,hc,hr,h=>by
   have h:wpC (spB P B) T c (bx (lg q)) s:=h
   refine wp_scope_straight (wp_mono (cV hT hm c hc hr h) (fun e a' w' hp=>?_))
   obtain⟨s',β',h1,h2,h3⟩:=hp
   cases e with
   |goto l=>exact h1.elim
   |_=>exact⟨s',β',h1,h2,h3⟩
 |.loop c,Q,q,s,β,a,w,hc,hr,h=>by
   obtain⟨I,⟨n,s₁,hvs,h0⟩,hround⟩:=h
   obtain⟨β₁,hr1,ht1⟩:=hvs b₀ N β a w hr
   refine wp_loop_ghost (fun n a' w'=>∃s' β',I n s'∧Rel b₀ N s' β' a' w'∧Tr b₀ β s w β' s' w') n ⟨s₁,β₁,h0,hr1,ht1⟩ ?_
   rintro n a' w' ⟨s',β',h1,h2,h3⟩
   refine wp_mono (cV hT hm c hc h2 (hround n s' h1)) (fun e a2 w2 hp=>?_)
   obtain⟨s2,β2,k1,k2,k3⟩:=hp
   cases e with
   |normal=>
     obtain⟨n',s3,hlt,hvs',hI⟩:=k1
     obtain⟨β3,hr3,ht3⟩:=hvs' b₀ N β2 a2 w2 k2
     exact⟨n',hlt,s3,β3,hI,hr3,h3.trans (k3.trans ht3)⟩
   |_=>exact⟨s2,β2,k1,k2,h3.trans k3⟩
 |.rangeFunc f ps x y,Q,q,s,β,a,w,hc,hr,h=>by
   obtain⟨R,hR,hK⟩:=h
   exact MQ
 |.refuse y,Q,q,s,β,a,w,hc,hr,h=>by
   obtain⟨R,hR,hK⟩:=h
   exact MQ
end
end
end
section
section
def fV:D→D
 |.nsl=>.sl []
 |x=>x
inductive Frz (s:St):C→D→Prop where
 |d (x:D):Frz s (.d x) (fV x)
 |osl {id g sz off len:Nat}{cells:List C}{es:List (List D)} (hg:s.gen id=g) (ho:s.obj id=some cells) (hfit:off+len*sz≤cells.length) (hlen:es.length=len) (hsz:∀e∈es,e.length=sz)
    (cf:Nat→C) (hc:∀(j:Nat) (x:D),es.flatten[j]? = some x→cells[off+j]? = some (cf j)) (hf:∀(j:Nat) (x:D),es.flatten[j]? = some x→Frz s (cf j) x):Frz s (.osl id g sz off len) (.sl es)
def RVc (J:Nat→Prop) (w:World) (c:C) (v:Value):Prop:=∃x,c=.d x∧bm J w x v
mutual
def RV (J:Nat→Prop) (w:World):AV→Value→Prop
 |.one c,v=>RVc J w c v
 |.agg cs,v=>∃vs:Array Value,v=.agg vs∧vs.size=cs.length∧∀(i:Nat) (c:C),cs[i]? = some c→∃u,vs[i]? = some u∧RVc J w c u
 |.tup ts,v=>∃vs:List Value,v=.tuple vs.toArray∧RVs J w ts vs
 |.junk,_=>False
 |.exact _,_=>False
def RVs (J:Nat→Prop) (w:World):List AV→List Value→Prop
 |[],vs=>vs=[]
 |t::ts,vs=>∃u us,vs=u::us∧RV J w t u∧RVs J w ts us
end
def sk (P:Program) (f:FuncId):Prop:=∃fn,P.funcs[f]? = some fn∧fn.body.isNone=false∧(fn.name == "runtime.NumGoroutine")=false
def ap (P:Program) (f:FuncId) (args:List AV) (R:AV→Prop):Prop:=
 sk P f∧∀(J:Nat→Prop) (w:World) (vs:List Value),(∀b,J b→b<w.heap.size)→RVs J w args vs→
  Calls P f vs.toArray w fun e w'=>∃v r,e=.returned v∧R r∧w.heap.size≤w'.heap.size∧(∀b,b<w.heap.size→w'.heap[b]? = w.heap[b]?)∧(w'.os=w.os∧w'.output=w.output)∧RV (fun b=>b<w'.heap.size∧(b<w.heap.size→J b)) w' r v
theorem ap.mono {P:Program}{f:FuncId}{args:List AV}{R R':AV→Prop} (h:ap P f args R) (hr:∀r,R r→R' r):ap P f args R':=
 ⟨h.1,fun J w vs hJ hv=>(h.2 J w vs hJ hv).mono fun _ _ ⟨v,r,h1,h2,h3⟩=>⟨v,r,h1,hr r h2,h3⟩⟩
variable {s:St}{a:Act}{c:C}{N:Nat}{f:FuncId}{g:Nat→Nat}{args:Array Operand}{tys:Array TypeId}{R:AV→Prop}
section
variable {P:Program}{T:Nat→TI}{b₀:Bs}{β:Loc}{w:World}
theorem RVc.mono {J J':Nat→Prop}{w w':World}{c:C}{v:Value} (h:RVc J w c v) (hJ:∀b,J b→J' b∧w'.heap[b]? = w.heap[b]?):RVc J' w' c v:=
 let ⟨x,h1,h2⟩:=h
 ⟨x,h1,h2.mono hJ⟩
mutual
theorem RV.mono {J J':Nat→Prop}{w w':World} (hJ:∀b,J b→J' b∧w'.heap[b]? = w.heap[b]?):(x:AV)→{v:Value}→RV J w x v→RV J' w' x v
 |.one _,_,h=>by simp only[RV] at h ⊢;exact RVc.mono h hJ
 |.agg _,_,h=>by
   simp only[RV] at h ⊢
   obtain⟨vs,h1,h2,h3⟩:=h
   exact⟨vs,h1,h2,fun i c hc=>let ⟨u,hu,hr⟩:=h3 i c hc;⟨u,hu,hr.mono hJ⟩⟩
 |.tup ts,_,h=>by simp only[RV] at h ⊢;obtain⟨vs,h1,h2⟩:=h;exact⟨vs,h1,RVs.mono hJ ts h2⟩
 |.junk,_,h=>by simp only[RV] at h
 |.exact _,_,h=>by simp only[RV] at h
theorem RVs.mono {J J':Nat→Prop}{w w':World} (hJ:∀b,J b→J' b∧w'.heap[b]? = w.heap[b]?):(x:List AV)→{v:List Value}→RVs J w x v→RVs J' w' x v
 |[],_,h=>by simp only[RVs] at h ⊢;exact h
 |t::ts,_,h=>by simp only[RVs] at h ⊢;obtain⟨u,us,h1,h2,h3⟩:=h;exact⟨u,us,h1,RV.mono hJ t h2,RVs.mono hJ ts h3⟩
end
theorem RVc.rep{ob:Obs}{v:Value} (h:RVc (Imm b₀ β ob w) w c v):aj b₀ β g ob w c v:=by
 obtain⟨x,rfl,hx⟩:=h;exact hx
mutual
theorem RV.rep {g:Nat→Nat}{ob:Obs}:(x:AV)→{v:Value}→RV (Imm b₀ β ob w) w x v→ab b₀ β g ob w x v
 |.one _,_,h=>by simp only[RV] at h;simp only[ab];exact RVc.rep h
 |.agg _,_,h=>by
   simp only[RV] at h;simp only[ab]
   obtain⟨vs,h1,h2,h3⟩:=h
   exact⟨vs,h1,h2,fun i c hc=>let ⟨u,hu,hr⟩:=h3 i c hc;⟨u,hu,hr.rep⟩⟩
 |.tup ts,_,h=>by simp only[RV] at h;simp only[ab];obtain⟨vs,h1,h2⟩:=h;exact⟨vs,h1,RVs.rep ts h2⟩
 |.junk,_,h=>by simp only[RV] at h
 |.exact _,_,h=>by simp only[RV] at h
theorem RVs.rep {g:Nat→Nat}{ob:Obs}:(x:List AV)→{v:List Value}→RVs (Imm b₀ β ob w) w x v→au b₀ β g ob w x v
 |[],_,h=>by simp only[RVs] at h;simp only[au];exact h
 |t::ts,_,h=>by simp only[RVs] at h;simp only[au];obtain⟨u,us,h1,h2,h3⟩:=h;exact⟨u,us,h1,RV.rep t h2,RVs.rep ts h3⟩
end
theorem Rel.grow (hr:Rel b₀ N s β a w) {w':World} (hs:w.heap.size≤w'.heap.size) (hh:∀b,b<w.heap.size→w'.heap[b]? = w.heap[b]?) (hos:w'.os=w.os∧w'.output=w.output):Rel b₀ N s β a w'∧Tr b₀ β s w β s w':=by
 have hkeep:dO b₀ β s.gen s.obj w β s.gen s.obj w':=⟨fun b hb=>⟨⟨by have:=hb.1;omega,hb.2.1,hb.2.2⟩,hh b hb.1⟩,fun _=>b9 _,fun id _ ho=>⟨ho,rfl,fun a' ha' arr el fr h1=>by
  rw[hh _ (uk hr ho ha')] at h1
  exact⟨arr,el,fr,h1,b9 _⟩⟩⟩
 exact⟨⟨hr.defers,hr.size,fun i=>ab.keep hkeep _ (hr.f i),fun id cells ho=>(hr.obj id cells ho).keep hkeep (fun a' ha'=>hh _ (uk hr OO ha')),hr.inj,by have:=hr.base;omega⟩,
  hs,fun b hb=>hh b (by have:=hr.base;omega),hkeep,hos⟩
theorem ra (hr:Rel b₀ N s β a w) {w':World}{J:Nat→Prop} (hJ:∀b,J b→Imm b₀ β s.obj w b) {b:Nat} (hb:b<w'.heap.size∧(b<w.heap.size→J b)):Imm b₀ β s.obj w' b:=by
 by_cases h:b<w.heap.size
 ·obtain⟨h1,h2,h3⟩:=hJ b (hb.2 h)
  exact⟨hb.1,h2,h3⟩
 ·refine⟨hb.1,fun hB=>absurd hr.base a6,fun id a' ho hβ he=>?_⟩
  have:=uk hr ho hβ
  omega
def vt:C→Bool
 |.d _=>true
 |_=>false
def dr:AV→Bool
 |.one c=>vt c
 |.agg cs=>cs.all vt
 |_=>false
theorem aj.data{ob:Obs}{v:Value} (hd:vt c=true) (h:aj b₀ β g ob w c v):RVc (Imm b₀ β ob w) w c v:=by
 cases c <;> simp[vt] at hd
 exact⟨_,rfl,h⟩
theorem ab.data {g:Nat→Nat}{ob:Obs}{x:AV}{v:Value} (hd:dr x=true) (h:ab b₀ β g ob w x v):RV (Imm b₀ β ob w) w x v:=by
 cases x with
 |one c=>simp only[ab] at h;simp only[RV];exact aj.data hd h
 |agg cs=>
   simp only[ab] at h;simp only[RV]
   obtain⟨vs,h1,h2,h3⟩:=h
   refine⟨vs,h1,h2,fun i c hc=>?_⟩
   obtain⟨u,hu,hr⟩:=h3 i c hc
   simp only[dr,l7] at hd
   exact⟨u,hu,hr.data (hd c (l4 hc))⟩
 |tup=>simp[dr] at hd
 |junk=>simp[dr] at hd
 |exact=>simp[dr] at hd
theorem eP {o:Oper} (ho:o.op=.call ⟨.value (.func f),args,tys⟩) (hf:sk P f) (w:World) :
  (execOp a.eval o).run P w=.ok (.enter f (args.map a.eval)) w:=by
 obtain⟨fn,h1,h2,h3⟩:=hf
 have h2:¬fn.body=none:=by intro h;rw[h] at h2;simp at h2
 have h3:¬fn.name = "runtime.NumGoroutine":=by simpa using h3
 simp[execOp,ho,resolve,Act.eval,Deferred.ofValue,invoke,callFunc,h1,h2,h3]
theorem qq {o:Oper} (ho:o.op=.call ⟨.value (.func f),args,tys⟩)
  (hp:ap P f (args.toList.map s.ev) R) (hd:(args.toList.map s.ev).all dr=true):qe P o s (fun s'=>∃r,R r∧s'=s.put o.dst r):=by
 intro b₀ N β a w hr hdst next Q hn
 unfold Oper.wp
 rw[eP ho hp.1 w]
 exact L5
def cD (args:List AV) (i:Nat):AV:=(args[i]?).getD uv
def iR (s:St):AV→AV→Prop
 |.one c,r=>∃x,Frz s c x∧r=.one (.d x)
 |.agg cs,r=>∃xs:List D,xs.length=cs.length∧(∀(i:Nat) (c:C),cs[i]? = some c→∃x,xs[i]? = some x∧Frz s c x)∧r=.agg (xs.map .d)
 |_,_=>False
def ce (s:St):List AV→List AV→Prop
 |[],rs=>rs=[]
 |t::ts,rs=>∃r rs',rs=r::rs'∧iR s t r∧ce s ts rs'
def ul (res:List Nat) (R:AV→Prop):Exit→St→Prop
 |.normal,s|.ret,s=>
   match res with
   |[t]=>∃r,iR s (s.f t) r∧R r
   |ts=>∃rs,ce s (ts.map s.f) rs∧R (.tup rs)
 |_,_=>False
def Own (b₀:Bs) (w:World) (b:Nat):Prop:=b<w.heap.size∧(b<b₀.B→b₀.I b)
theorem Frz.rep (hr:Rel b₀ N s β a w){x:D} (h:Frz s c x):∀{v:Value},aj b₀ β s.gen s.obj w c v→bm (Own b₀ w) w x v:=by
 induction h with
 |d x=>
   intro v hv
   have hv:bm (Imm b₀ β s.obj w) w x v:=hv
   have h1:bm (Own b₀ w) w x v:=hv.mono fun b hb=>⟨⟨hb.1,hb.2.1⟩,rfl⟩
   cases x <;> simp only[fV] <;> first|exact h1|skip
   cases h1
   exact .sl0
 |osl hg ho hfit hlen hsz cf hc hf ih=>
   rename_i id g sz off len cells es
   intro v hv
   have hat:=eO hv hg OO
   have hob:=hr.obj id cells ho
   cases hβ:β id with
   |none=>
     exact Nl
   |some ad=>
     rw[hβ] at hat hob
     obtain⟨hsp,hat⟩:=hat
     obtain⟨hB,arr,el,lo,hi,hblk,hfr,hal,hcells⟩:=hob.cells hsp
     rcases hat with⟨cap,rfl,hcap,_⟩|⟨hl0,o,rfl⟩
     ·rw[←hlen]
      have hval:∀i e,es[i]? = some e→∀j x,e[j]? = some x→es.flatten[i*sz+j]? = some x:=fun i e he j x hx=>by
       exact L6
      have hcell:∀m x,es.flatten[m]? = some x→∃u,w.cell? ⟨ad.block,ad.off+off+m,none⟩=some u∧bm (Own b₀ w) w x u:=fun m x hx=>by
       exact NA
      refine .sl (b:=ad.block) (off:=ad.off+off) (sz:=sz) (fun i j=>(w.cell? ⟨ad.block,ad.off+off+(i*sz+j),none⟩).getD undef) a6 (fun _=>⟨(s9.1 hblk).1,fun h=>absurd hB a6⟩) hsz (fun i e he j x hx=>?_) (fun i e he j x hx=>?_)
      ·obtain⟨u,hu,_⟩:=hcell _ x (hval i e he j x hx)
       rw[z1,hu];rfl
      ·exact N2
     ·subst hl0
      have:es=[]:=j5 hlen
      subst this
      exact MB
theorem iR.rep {N:Nat}{s:St}{a:Act} (hr:Rel b₀ N s β a w) {x r:AV} (h:iR s x r) {v:Value} (hv:ab b₀ β s.gen s.obj w x v):RV (Own b₀ w) w r v:=by
 cases x with
 |one c=>
   obtain⟨y,hy,rfl⟩:=h
   simp only[ab] at hv;simp only[RV]
   exact⟨y,rfl,Frz.rep hr hy hv⟩
 |agg cs=>
   obtain⟨xs,hl,hx,rfl⟩:=h
   simp only[ab] at hv;simp only[RV]
   obtain⟨vs,h1,h2,h3⟩:=hv
   refine⟨vs,h1,by rw[h2,b7,hl],fun i c hc=>?_⟩
   rw[l8] at hc
   cases hq:xs[i]? with
   |none=>rw[hq] at hc;cases hc
   |some y=>
     rw[hq] at hc
     simp only[r0,l9] at hc
     subst hc
     have hlt:i<cs.length:=by rw[←hl];exact(j0.1 hq).1
     obtain⟨u,hu,hru⟩:=h3 i _ (p7 hlt)
     obtain⟨y',hy',hf⟩:=hx i _ (p7 hlt)
     have:y'=y:=by simpa[hy'] using hq
     subst this
     exact⟨u,hu,y',rfl,Frz.rep hr hf hru⟩
 |tup=>exact h.elim
 |junk=>exact h.elim
 |exact=>exact h.elim
theorem ce.rep {N:Nat}{s:St}{a:Act} (hr:Rel b₀ N s β a w):∀(ts:List Nat) {rs:List AV},ce s (ts.map s.f) rs→RVs (Own b₀ w) w rs (ts.map fun t=>a.tmps.getD t undef)
 |[],rs,h=>by simp only[n0,ce] at h;subst h;simp only[n0,RVs]
 |t::ts,rs,h=>by
   simp only[j8,ce] at h
   obtain⟨r,rs',rfl,h1,h2⟩:=h
   simp only[j8,RVs]
   exact⟨_,_,rfl,h1.rep hr (hr.f t),ce.rep hr ts h2⟩
def kK (tmps:Array Value):List Nat→Value
 |[t]=>tmps.getD t undef
 |ts=>.tuple (ts.map fun t=>tmps.getD t undef).toArray
theorem nk {fn:Func} (res:List Nat) (hres:fn.results=(res.map ResultVar.tmp).toArray) (tmps:Array Value):(results fn tmps).run P w=.ok (kK tmps res) w:=by
 have h:∀(g:ResultVar→Sem Value) (hg:∀t,g (.tmp t)=pure (tmps.getD t undef)) (l:List Nat),((l.map ResultVar.tmp).mapM g).run P w=.ok (l.map fun t=>tmps.getD t undef) w:=by
  intro g hg l
  induction l with
  |nil=>simp
  |cons t l ih=>simp only[j8,J6,Sem.run_bind,hg,Sem.run_pure,Result.andThen_ok,ih]
 unfold results
 simp only[hres,LM,Sem.run_bind,Sem.run_map]
 rw[h _ (fun _=>rfl) res]
 simp only[Result.andThen_ok,Sem.run_pure]
 match res with
 |[]=>simp[kK]
 |[t]=>simp[kK]
 |t::t'::ts=>simp[kK]
theorem um (hT:aI P T) (hm:P.follows .mixedOrders=true){fn:Func}{c:Code} (hf:P.funcs[f]? = some fn) (hb:fn.body=some c) (hn:(fn.name == "runtime.NumGoroutine")=false)
  (res:List Nat) (hres:fn.results=(res.map ResultVar.tmp).toArray) (hok:codeOk fn.ntmps c=true) {args:List AV} (hargs:args.length≤fn.ntmps)
  (h:∀g,wpC (sp P) T c (bx (ul res R)) ⟨cD args,g,fun _=>none⟩):ap P f args R:=by
 refine⟨⟨fn,hf,by rw[hb];rfl,hn⟩,fun J w vs hJ hv=>?_⟩
 refine calls_of_wp hf hb ?_
 have hlen:∀(l:List AV) (vs:List Value),RVs J w l vs→vs.length=l.length:=by
  intro l
  induction l with
  |nil=>intro vs h;simp only[RVs] at h;subst h;rfl
  |cons x l ih=>intro vs h;simp only[RVs] at h;obtain⟨u,us,rfl,_,h⟩:=h;simp[ih us h]
 have hl:=hlen _ _ hv
 let J':Nat→Prop:=J
 have hr:Rel ⟨w.heap.size,J'⟩ fn.ntmps ⟨cD args,fun _=>0,fun _=>none⟩ (fun _=>none) { tmps:=vs.toArray++Array.replicate (fn.ntmps-vs.toArray.size) undef,defers:=[]} w:=by
  refine⟨rfl,by simp;omega,fun i=>?_,fun id cells ho=>O7,fun id id' a a' ho=>O7,b9 _⟩
  have hget:∀(l:List AV) (vs:List Value),RVs J w l vs→∀(i:Nat) (x:AV),l[i]? = some x→∃v,vs[i]? = some v∧RV J w x v:=by
   intro l
   induction l with
   |nil=>intro vs _ i x h;simp at h
   |cons y l ih=>
     intro vs h i x hx
     simp only[RVs] at h
     obtain⟨u,us,rfl,h1,h2⟩:=h
     cases i with
     |zero=>simp at hx;subst hx;exact⟨u,rfl,h1⟩
     |succ i=>simpa using ih us h2 i x Oz
  simp only[cD]
  cases hx:args[i]? with
  |some x=>
    exact Mo
  |none=>
    exact NC
 refine wp_mono (cV hT hm c hok hr (h _)) (fun e a' w' hp=>?_)
 obtain⟨s',β',hQ,hr',ht⟩:=hp
 have hres':∀{e},ul res R e s'→(e=.normal∨e=.ret)→∃v,(results fn a'.tmps).run P w'=.ok v w'∧∃r,R r∧RV (Own ⟨w.heap.size,J'⟩ w') w' r v:=by
  intro e hQ he
  refine⟨_,nk res hres a'.tmps,?_⟩
  have hQ':ul res R .ret s':=by rcases he with rfl|rfl <;> exact hQ
  unfold ul at hQ'
  match res,hQ' with
  |[t],⟨r,h1,h2⟩=>exact⟨r,h2,h1.rep hr' (hr'.f t)⟩
  |[],⟨rs,h1,h2⟩=>exact⟨_,h2,by simp only[RV];exact⟨_,rfl,ce.rep hr' [] h1⟩⟩
  |t::t'::ts,⟨rs,h1,h2⟩=>exact⟨_,h2,by simp only[RV];exact⟨_,rfl,ce.rep hr' (t::t'::ts) h1⟩⟩
 cases e with
 |normal=>
   obtain⟨v,h1,r,h2,h3⟩:=hres' hQ (.inl rfl)
   exact ML
 |ret=>
   obtain⟨v,h1,r,h2,h3⟩:=hres' hQ (.inr rfl)
   exact ML
 |exit id=>exact hQ.elim
 |goto l=>exact hQ.elim
 |panic ch=>exact hQ.elim
 |outgrown=>exact hQ.elim
end
end
end
end Go.Am

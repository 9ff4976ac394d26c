/- A part of the proof; no conditions. -/
import Derived.Test.YtphohejoiocikaaGreatDoorPart11
import Derived.Shelf.Strconv.Itoa3
import Derived.Test.YtphohejoiocikaaGreatDoorProg
set_option linter.unusedSimpArgs false
set_option linter.unusedVariables false
set_option maxHeartbeats 64000000
set_option maxRecDepth 100000
namespace Go.Src
section
open Go.Asm (Str)
open Go.Mach (applyN)
section
def gC (v:Nat) (c:UInt8):Nat:=10*v+(c.toNat-48)
theorem yr:∀(ds:Str) (v:Nat),v≤ds.foldl gC v
 |[],_=>b9 _
 |d::ds,v=>by
   have h1:=yr ds (gC v d)
   have h2:v≤gC v d:=by unfold gC;omega
   exact z6 h2 h1
variable {a b:Nat}{ws:List Nat}{f:Nat}
theorem ap5:applyN 5 a b=some ((a+4294967296-b)%4294967296):=by simp[applyN]
theorem ap5n (h1:b≤a) (h2:a<4294967296):applyN 5 a b=some (a-b):=by
 have e:(a+4294967296-b)%4294967296=a-b:=a6
 rw[ap5,e]
theorem ap4:applyN 4 a b=some ((a+b)%4294967296):=by simp[applyN]
theorem ap6:applyN 6 a b=some (a*b%4294967296):=by simp[applyN]
theorem ap14:applyN 14 a b=some (if a<b then 1 else 0):=by simp[applyN]
theorem ap15:applyN 15 a b=some (if a=b then 1 else 0):=by simp[applyN]
theorem ap12 (h:b≤31):applyN 12 a b=some (a*2^b%4294967296):=by simp[applyN];omega
theorem KB (h:b≤31):applyN 13 a b=some (a/2^b):=by simp[applyN];omega
theorem drop_one {inp t:Str}{k:Nat}{x:UInt8} (h:inp.drop k=x::t):inp[k]? = some x∧inp.drop (k+1)=t∧k<inp.length:=by
 refine⟨?_,?_,?_⟩
 ·have:=congrArg (·[0]?) h
  simpa using this
 ·rw[←C6,h];rfl
 ·have:=congrArg List.length h
  rw[r9,e8] at this
  omega
section
variable {inp:Str}{fu:Nat}
abbrev EvS (inp:Str) (fu:Nat):=Ev ew (fdP ew) inp fu
theorem f0v:fdP ew 0 sV=(1,((0:Nat):Int)):=b0
theorem f0c:fdP ew 0 sC=(1,((1:Nat):Int)):=b0
theorem f1w:fdP ew 1 sW=(1,((0:Nat):Int)):=b0
theorem f2n:fdP ew 2 sN=(1,((0:Nat):Int)):=b0
theorem f2o:fdP ew 2 sO=(1,((1:Nat):Int)):=b0
theorem f2m:fdP ew 2 EU=(4,((0:Nat):Int)):=b0
theorem f2e:fdP ew 2 iw=(4,((1:Nat):Int)):=b0
theorem nuE{σ:Sg}{n:Nat} (h:n<4294967296:=by decide):EvS inp fu (.e f ws σ (nu n) n σ):=Ev.num h
theorem opE{σ σ1 σ2:Sg}{a b:Ex}{x y v o:Nat} (ha:EvS inp fu (.e f ws σ a x σ1)) (hb:EvS inp fu (.e f ws σ1 b y σ2)) (hx:x<4294967296) (hy:y<4294967296) (h4:4≤o∧o≤15) (hv:applyN o x y=some v):EvS inp fu (.e f ws σ (op2 o a b) v σ2):=Ev.op ha hb hx hy h4.1 h4.2 hv
theorem vrE{σ:Sg}{s:Str}{i v:Nat} (h:fdP ew f s=(1,((i:Nat):Int))) (hv:ws[i]? = some v):EvS inp fu (.e f ws σ (vr s) v σ):=Ev.var h hv
theorem sx {sep:UInt8}{rest:Str} (hsep:sep.toNat≤47):∀(ds:Str) {x:UInt8}{ys:Str}{k v tk:Nat}{out:Str},x::ys=ds++sep::rest→inp.drop k=ys→(∀d∈ds,48≤d.toNat∧d.toNat≤57)→ds.foldl gC v<4294967296→tk+ds.length<fu→
  EvS inp fu (.w 0 [v,x.toNat] ⟨out,k,tk⟩ vB ut [ds.foldl gC v,sep.toNat] ⟨out,k+ds.length,tk+ds.length⟩ none)
 |[],x,ys,k,v,tk,out,he,hk,hd,hv,ht=>by
   obtain⟨rfl,rfl⟩:x=sep∧ys=rest:=by simpa using he
   have hlt:=x.toNat_lt
   exact Ev.out (Ev.and0 (opE nuE (Ev.var f0c rfl) a8 a6 a8 (by rw[ap14,if_neg a6])))
 |d::ds,x,ys,k,v,tk,out,he,hk,hd,hv,ht=>by
   obtain⟨rfl,hys⟩:x=d∧ys=ds++sep::rest:=by simpa using he
   have hdx:=hd x a7
   rw[H3] at hv
   have hge:=yr ds (gC v x)
   have hdv:gC v x=10*v+(x.toNat-48):=rfl
   obtain⟨y,ys',hy⟩:∃y ys',ys=y::ys':=by
    rw[hys]
    cases ds with
    |nil=>exact⟨_,_,rfl⟩
    |cons a l=>exact⟨_,_,rfl⟩
   rw[hy] at hk hys
   obtain⟨g1,g2,g3⟩:=drop_one hk
   have hrec:=sx hsep ds (k:=k+1) (v:=gC v x) (tk:=tk+1) (out:=out) hys g2 (fun a ha=>hd a (by simp[ha])) hv (by simp only[e8] at ht;omega)
   have hgt:jM inp k=y.toNat:=by unfold jM;rw[g1]
   have hnx:fI inp k=k+1:=by unfold fI;rw[g1]
   have hlt:=x.toNat_lt
   have hcond:EvS inp fu (.e 0 [v,x.toNat] ⟨out,k,tk⟩ vB 1 ⟨out,k,tk⟩):=
    Ev.and1 (opE nuE (Ev.var f0c rfl) a8 a6 a8 (by rw[ap14,if_pos a6])) a8
     (opE (Ev.var f0c rfl) nuE a6 a8 a8 (by rw[ap14,if_pos a6]))
   have hb1:EvS inp fu (.s 0 [v,x.toNat] ⟨out,k,tk⟩ (st sV (op2 4 (op2 6 (vr sV) (nu 10)) (op2 5 (vr sC) (nu 48)))) [gC v x,x.toNat] ⟨out,k,tk⟩ none):=
    Ev.set (i:=0) (v:=gC v x) (opE (x:=v*10) (y:=x.toNat-48)
     (opE (Ev.var f0v rfl) nuE a6 a8 a8 (by rw[ap6,B7 a6]))
     (opE (Ev.var f0c rfl) nuE a6 a8 a8 (ap5n a6 a6))
     a6 a6 a8 (by rw[ap4,hdv];congr 1;omega)) f0v a7
   have hb2:EvS inp fu (.s 0 [gC v x,x.toNat] ⟨out,k,tk⟩ (st sC gt) [gC v x,y.toNat] ⟨out,k+1,tk⟩ none):=by
    have:=Ev.set (p:=ew) (fd:=fdP ew) (inp:=inp) (fu:=fu) (f:=0) (ws:=[gC v x,x.toNat]) (σ:=⟨out,k,tk⟩) (nm:=sC) (th:=[]) (el:=[]) (i:=1) (Ev.get (o:=0) (n:=0) (nm:=[]) (ks:=[]) (by show k≤_;omega)) f0c a7
    rw[show (⟨out,k,tk⟩:Sg).rd=k from rfl,hgt,hnx] at this
    exact this
   have hfin:=Ev.round a8 hcond a8 (Ev.next hb1 (Ev.next hb2 Ev.done)) (by show tk<fu;simp only[e8] at ht;omega) hrec
   rw[H3,e8,show k+(ds.length+1)=k+1+ds.length by omega,show tk+(ds.length+1)=tk+1+ds.length by omega]
   exact hfin
theorem lK {sep:UInt8}{rest ds:Str} (hsep:sep.toNat≤47) (hne:ds≠[]){k tk:Nat}{out:Str} (hk:inp.drop k=ds++sep::rest) (hd:∀d∈ds,48≤d.toNat∧d.toNat≤57) (hv:ds.foldl gC 0<4294967296) (ht:tk+ds.length+2<fu) :
  EvS inp fu (.e 2 ws ⟨out,k,tk⟩ num (ds.foldl gC 0) ⟨out,k+ds.length+1,tk+ds.length+2⟩):=by
 obtain⟨x,ds',rfl⟩:∃x l,ds=x::l:=by
  cases ds with
  |nil=>exact absurd rfl hne
  |cons x l=>exact⟨x,l,rfl⟩
 obtain⟨g1,g2,g3⟩:=drop_one hk
 simp only[e8] at ht
 have hgt:jM inp k=x.toNat:=by unfold jM;rw[g1]
 have hnx:fI inp k=k+1:=by unfold fI;rw[g1]
 have h1:EvS inp fu (.s 0 [0,0] ⟨out,k,tk+1⟩ (st sC gt) [0,x.toNat] ⟨out,k+1,tk+1⟩ none):=by
  have:=Ev.set (p:=ew) (fd:=fdP ew) (inp:=inp) (fu:=fu) (f:=0) (ws:=[0,0]) (σ:=⟨out,k,tk+1⟩) (nm:=sC) (th:=[]) (el:=[]) (i:=1) (Ev.get (o:=0) (n:=0) (nm:=[]) (ks:=[]) (by show k≤_;omega)) f0c a7
  rw[show (⟨out,k,tk+1⟩:Sg).rd=k from rfl,hgt,hnx] at this
  exact this
 have h2:=sx (inp:=inp) (fu:=fu) hsep (x::ds') (x:=x) (ys:=ds'++sep::rest) (k:=k+1) (v:=0) (tk:=tk+2) (out:=out) rfl g2 hd hv (by simp only[e8];omega)
 have h3:EvS inp fu (.s 0 [0,x.toNat] ⟨out,k+1,tk+1⟩ (wh vB ut) _ _ none):=Ev.while (by show tk+1<fu;omega) h2
 have hb:EvS inp fu (.b 0 [] (Sg.tick ⟨out,k,tk⟩) ((x::ds').foldl gC 0) _):=Ev.body (fn:=Dh) (r:=some _) rfl a8 a8 a8 a8 a8 (Ev.next h1 (Ev.next h3 (Ev.back (Ev.ret (Ev.var f0v rfl)))))
 have:=Ev.call (o:=0) (n:=0) (f:=2) (ws:=ws) a8 f2m Ev.nil (by show tk<fu;omega) hb
 simp only[e8] at this ⊢
 rw[show k+(ds'.length+1)+1=k+1+(ds'.length+1) by omega,show tk+(ds'.length+1)+2=tk+2+(ds'.length+1) by omega]
 exact this
def by4 (w:Nat):Str:=[UInt8.ofNat w,UInt8.ofNat (w/256),UInt8.ofNat (w/65536),UInt8.ofNat (w/16777216)]
theorem gx{σ σ1:Sg}{e:Ex}{w:Nat} (he:EvS inp fu (.e 2 ws σ e w σ1)) (hw:w<4294967296) (ht:σ1.tk<fu) (ho:σ1.out.length+4≤65536):EvS inp fu (.s 2 ws σ (cs iw [e]) ws ⟨σ1.out++by4 w,σ1.rd,σ1.tk+1⟩ none):=by
 have hs:∀(n:Nat) (σ:Sg),n<4294967296→n≤31→EvS inp fu (.e 1 [w] σ (op2 13 (vr sW) (nu n)) (w/2^n) σ):=fun n σ hn h31=>
  opE (Ev.var f1w rfl) (Ev.num hn) hw hn a8 (KB h31)
 have hb:EvS inp fu (.b 1 [w] σ1.tick 0 ⟨(((σ1.out++[UInt8.ofNat w])++[UInt8.ofNat (w/2^8)])++[UInt8.ofNat (w/2^16)])++[UInt8.ofNat (w/2^24)],σ1.rd,σ1.tk+1⟩):=
  Ev.body (fn:=yq) (r:=none) rfl a8 a8 a7 a8 (by show 0<1+0;decide)
   (Ev.next (Ev.put (Ev.var f1w rfl) (by show σ1.out.length<65536;omega)) (Ev.next (Ev.put (hs 8 _ a8 a8) (by simp[Sg.tick];omega)) (Ev.next (Ev.put (hs 16 _ a8 a8) (by simp[Sg.tick];omega)) (Ev.next (Ev.put (hs 24 _ a8 a8) (by simp[Sg.tick];omega)) Ev.done))))
 have:=Ev.run (nm:=iw) (th:=[]) (el:=[]) a7 f2e (Ev.cons he Ev.nil) ht hb
 rw[show (((σ1.out++[UInt8.ofNat w])++[UInt8.ofNat (w/2^8)])++[UInt8.ofNat (w/2^16)])++[UInt8.ofNat (w/2^24)]=σ1.out++by4 w by simp[by4]] at this
 exact this
end
end
end
end Go.Src
namespace Go.Proofs.YtphohejoiocikaaGreatDoor
section
open Go Go.Shelf
def uW:Ren:=⟨fun|171=>41|243=>70|246=>118|283=>119|284=>120|285=>121|286=>122|129=>158|317=>157|318=>159|319=>160|320=>161|337=>193|338=>194|n=>n,fun|3=>3|9=>9|2=>2|4=>4|171=>184|0=>0|53=>89|37=>47|5=>5|173=>187|212=>240|51=>32|20=>20|213=>241|46=>86|232=>314|233=>315|n=>n,fun|17=>1|18=>3|19=>4|n=>n⟩
theorem bq:LaysM.n171 Tryz.prog uW where
 mixed:=b6
 f129:=Tryz.func158.trans (congrArg some b6)
 f171:=Tryz.func41.trans (congrArg some b6)
 f243:=Tryz.func70.trans (congrArg some b6)
 f246:=Tryz.func118.trans (congrArg some b6)
 f283:=Tryz.func119.trans (congrArg some b6)
 f284:=Tryz.func120.trans (congrArg some b6)
 f285:=Tryz.func121.trans (congrArg some b6)
 f286:=Tryz.func122.trans (congrArg some b6)
 f317:=Tryz.func157.trans (congrArg some b6)
 f318:=Tryz.func159.trans (congrArg some b6)
 f319:=Tryz.func160.trans (congrArg some b6)
 f320:=Tryz.func161.trans (congrArg some b6)
 f337:=Tryz.func193.trans (congrArg some b6)
 f338:=Tryz.func194.trans (congrArg some b6)
 t0:=Tryz.underlying0
 a0:=Tryz.isAgg0
 z0:=Tryz.sizeOf0
 v0:=Tryz.zeroValue0
 t2:=Tryz.underlying2
 a2:=Tryz.isAgg2
 z2:=Tryz.sizeOf2
 v2:=Tryz.zeroValue2
 t3:=Tryz.underlying3
 a3:=Tryz.isAgg3
 z3:=Tryz.sizeOf3
 v3:=Tryz.zeroValue3
 t4:=Tryz.underlying4
 a4:=Tryz.isAgg4
 z4:=Tryz.sizeOf4
 v4:=Tryz.zeroValue4
 t5:=Tryz.underlying5
 a5:=Tryz.isAgg5
 z5:=Tryz.sizeOf5
 v5:=Tryz.zeroValue5
 t9:=Tryz.underlying9
 a9:=Tryz.isAgg9
 z9:=Tryz.sizeOf9
 v9:=Tryz.zeroValue9
 t20:=Tryz.underlying20
 a20:=Tryz.isAgg20
 z20:=Tryz.sizeOf20
 v20:=Tryz.zeroValue20
 t37:=Tryz.underlying47
 a37:=Tryz.isAgg47
 z37:=Tryz.sizeOf47
 v37:=Tryz.zeroValue47
 t46:=Tryz.underlying86
 a46:=Tryz.isAgg86
 z46:=Tryz.sizeOf86
 v46:=Tryz.zeroValue86
 t51:=Tryz.underlying32
 a51:=Tryz.isAgg32
 z51:=Tryz.sizeOf32
 v51:=Tryz.zeroValue32
 t53:=Tryz.underlying89
 a53:=Tryz.isAgg89
 z53:=Tryz.sizeOf89
 v53:=Tryz.zeroValue89
 t171:=Tryz.underlying184
 a171:=Tryz.isAgg184
 z171:=Tryz.sizeOf184
 v171:=Tryz.zeroValue184
 t173:=Tryz.underlying187
 a173:=Tryz.isAgg187
 z173:=Tryz.sizeOf187
 v173:=Tryz.zeroValue187
 t212:=Tryz.underlying240
 a212:=Tryz.isAgg240
 z212:=Tryz.sizeOf240
 v212:=Tryz.zeroValue240
 t213:=Tryz.underlying241
 a213:=Tryz.isAgg241
 z213:=Tryz.sizeOf241
 t232:=Tryz.underlying314
 a232:=Tryz.isAgg314
 z232:=Tryz.sizeOf314
 v232:=Tryz.zeroValue314
 t233:=Tryz.underlying315
 a233:=Tryz.isAgg315
 z233:=Tryz.sizeOf315
 v233:=Tryz.zeroValue315
 g17:=b6
 g18:=b6
 g19:=b6
 i0:=b6
 i2:=b6
 i3:=b6
 i4:=b6
 i5:=b6
 i9:=b6
 i20:=b6
 i37:=b6
 i46:=b6
 i51:=b6
 i53:=b6
 i171:=b6
 i173:=b6
 i212:=b6
 i232:=b6
 i233:=b6
 m17:=b6
 m18:=b6
 m19:=b6
end
section
attribute [local congr] Go.Am.ite_cc
open Go Go.Am Go.Asm
section
theorem gI {res:List Nat}{R:AV→(Nat→Nat)→Obs→Prop}{s:St}{e:Exit} (he:e=.ret∨e=.normal) (h:R (je s.f res) s.gen s.obj):xA res R e s:=by
 rcases he with rfl|rfl <;> exact⟨_,al.refl _,h⟩
def RdC (ts:List Src.Tok) (n fin:Nat):List C:=[.d (bN ts),.d (.int .i64 (n:Nat)),.d (.int .i64 (fin:Nat))]
structure RdP (gr:Nat) (ts:List Src.Tok) (n fin:Nat) (g:Nat→Nat) (ob:Obs):Prop where
 gen:g 125=gr
 obj:ob 125=some (RdC ts n fin)
def FrP (B:Nat) (g:Nat→Nat) (ob:Obs) (g':Nat→Nat) (ob':Obs):Prop:=∀i,i<B→g' i=g i∧(i≠125→ob' i=ob i)
theorem FrP.trans {B B':Nat}{g g' g'':Nat→Nat}{ob ob' ob'':Obs} (h:FrP B g ob g' ob') (h':FrP B' g' ob' g'' ob'') (hb:B≤B'):FrP B g ob g'' ob'':=
 fun i hi=>⟨(h' i a6).1.trans (h i hi).1,fun h1=>((h' i a6).2 h1).trans ((h i hi).2 h1)⟩
theorem FrP.down {B B':Nat}{g g':Nat→Nat}{ob ob':Obs} (h:FrP B g ob g' ob') (hb:B'≤B):FrP B' g ob g' ob':=fun i hi=>h i a6
def kAq (ts:List Src.Tok) (n:Nat):Nat:=match ts[n]? with|some t=>t.kind|none=>0
def tAq (ts:List Src.Tok) (n:Nat):Str:=match ts[n]? with|some t=>if t.kind=3∨t.kind=4 then t.text else []|none=>[]
def ky (ts:List Src.Tok) (fin n:Nat):Nat:=match ts[n]? with|some t=>t.place|none=>fin
variable {ts:List Src.Tok}{gr n fin:Nat}{g:Nat→Nat}{ob:Obs}
theorem nW{n:Nat}{t:Src.Tok} (h:ts[n]? = some t):(ts.map fB)[n]? = some [.int .i64 (t.kind:Nat),.str t.text,.int .u32 (t.num:Nat),.int .i64 (t.place:Nat)]:=by rw[l8,h];rfl
theorem uS (h:RdP gr ts n fin g ob) :
  dK Tryz.prog 167 [.one (.ptr 125 gr 0)] g ob (fun r g' ob'=>r=iv .i64 (kAq ts n:Nat)∧g'=g∧ob'=ob):=by
 refine hdF 9000 Tryz.func167 rfl [2] ?_
 obtain⟨hg,ho⟩:=h
 unfold RdC bN at ho
 have hn0:(0:Int)≤(n:Int):=a6
 simp only[go_sem]
 refine bS b0 ?_
 unfold kAq
 by_cases hlt:n<ts.length
 ·have hlti:(n:Int)<(ts.length:Int):=a6
  obtain⟨t,ht⟩:=getq hlt
  have htg:=nW ht
  rw[ht]
  simp only[go_sem,hg,ho,b7,hlti]
  refine bS b0 ?_
  simp only[go_sem,hg,ho,hn0,htg]
  exact gI (.inl rfl) ⟨rfl,rfl,rfl⟩
 ·have hlti:¬(n:Int)<(ts.length:Int):=a6
  rw[v8 a6]
  simp only[go_sem,hg,ho,b7,hlti]
  exact gI (.inl rfl) ⟨rfl,rfl,rfl⟩
theorem uT (h:RdP gr ts n fin g ob) :
  dK Tryz.prog 166 [.one (.ptr 125 gr 0)] g ob (fun r g' ob'=>r=sv (tAq ts n)∧∀i,i<9000→g' i=g i∧ob' i=ob i):=by
 refine hdF 9000 Tryz.func166 rfl [2] ?_
 obtain⟨hg,ho⟩:=h
 unfold RdC bN at ho
 have hn0:(0:Int)≤(n:Int):=a6
 simp only[go_sem]
 refine bS b0 ?_
 unfold tAq
 by_cases hlt:n<ts.length
 case neg=>
  have hlti:¬(n:Int)<(ts.length:Int):=a6
  rw[v8 a6]
  simp only[go_sem,hg,ho,b7,hlti]
  exact gI (.inl rfl) ⟨rfl,fun i hi=>⟨rfl,rfl⟩⟩
 have hlti:(n:Int)<(ts.length:Int):=a6
 obtain⟨t,ht⟩:=getq hlt
 have htg:=nW ht
 rw[ht]
 simp only[go_sem,hg,ho,b7,hlti]
 refine jx aQ mixed [9003] [([0],[0],[],false),([14],[0],[],false),([15],[0],[],false),([16],[0],[],false),([0],[0],[],false),([18],[0],[],false),([19],[0],[],false),([20],[0],[],false),([17,21],[0],[],false),([22],[0],[],false),([],[],[0],false),([3,23],[],[],true)] 1 b0 rfl a8 ?_
 simp only[go_sem]
 iterate 10 (apply bp;· (intro fa ga oa K' hK;simp only[go_sem,hg,ho,hn0,htg] at hK ⊢;exact hK))
 (apply lj;· (intro fa ga oa K' hK;simp only[go_sem] at hK ⊢;exact hK))
 apply ij
 intro K' hK'
 simp only[go_sem]
 refine hK' _ ?_
 clear hK' K'
 have hw:(t.kind=3∨t.kind=4)↔((t.kind:Int)=3∨(t.kind:Int)=4):=a6
 by_cases h3:(t.kind:Int)=3
 ·rw[if_pos (hw.2 (.inl h3))]
  simp only[go_sem,h3]
  exact MO
 by_cases h4:(t.kind:Int)=4
 ·rw[if_pos (hw.2 (.inr h4))]
  simp only[go_sem,h3,h4]
  exact MO
 ·rw[if_neg (fun h=>(hw.1 h).elim h3 h4)]
  simp only[go_sem,h3,h4]
  exact MO
theorem RdP.next {gr n fin:Nat}{ts:List Src.Tok}{g:Nat→Nat}{ob:Obs} (h:RdP gr ts n fin g ob):RdP gr ts (n+1) fin g (upd ob 125 (some (RdC ts (n+1) fin))):=⟨h.gen,by simp[upd]⟩
theorem RdP.of{g g':Nat→Nat}{ob ob':Obs} (h:RdP gr ts n fin g ob) (hg:g' 125=g 125) (ho:ob' 125=ob 125):RdP gr ts n fin g' ob':=⟨hg.trans h.gen,ho.trans h.obj⟩
def FX (gr:Nat) (ts:List Src.Tok) (n fin:Nat) (s:Str) (g:Nat→Nat) (ob:Obs) (r:AV) (g':Nat→Nat) (ob':Obs):Prop:=
 FrP 8900 g ob g' ob'∧((tAq ts n=s∧r=bv true∧RdP gr ts (n+1) fin g' ob')∨(tAq ts n≠s∧r=bv false∧RdP gr ts n fin g' ob'))
theorem qB (h:RdP gr ts n fin g ob) (hn:n≤1000000) (s:Str) :
  dK Tryz.prog 126 [.one (.ptr 125 gr 0),sv s] g ob (FX gr ts n fin s g ob):=by
 refine hdF 8900 Tryz.func126 rfl [4] ?_
 have hw:=ag (k:=n) a6
 simp only[go_sem]
 refine fF rfl (by simp only[go_sem];exact uT h) ?_
 rintro _ g1 ob1 ⟨rfl,f1⟩
 have h1:RdP gr ts n fin g1 ob1:=h.of (f1 125 a8).1 (f1 125 a8).2
 have hg1:=h1.gen
 have ho1:=h1.obj
 unfold RdC bN at ho1
 by_cases he:tAq ts n=s
 ·simp only[go_sem,he,hg1,ho1,hw]
  refine gI (.inl rfl) (show FX _ _ _ _ _ _ _ _ _ _ from ?_)
  exact⟨fun i hi=>⟨(f1 i a6).1,fun h5=>by simp only[upd];rw[if_neg h5];exact(f1 i a6).2⟩,.inl ⟨he,rfl,hg1,by simp[upd,RdC,bN]⟩⟩
 ·simp only[go_sem,he]
  refine gI (.inl rfl) (show FX _ _ _ _ _ _ _ _ _ _ from ?_)
  exact⟨fun i hi=>⟨(f1 i a6).1,fun _=>(f1 i a6).2⟩,.inr ⟨he,rfl,h1⟩⟩
end
end
end Go.Proofs.YtphohejoiocikaaGreatDoor

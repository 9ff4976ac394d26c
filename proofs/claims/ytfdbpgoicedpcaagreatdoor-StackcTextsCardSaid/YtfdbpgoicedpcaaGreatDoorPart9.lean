/- A part; no conditions. -/
import Derived.Test.YtfdbpgoicedpcaaGreatDoorPart8
import Derived.WalkKit
import Derived.Lib.Builder
set_option linter.all false
open List renaming length -> z
open Option renaming some -> S, none -> N
open Bool renaming true -> T, false -> F
set_option maxHeartbeats 64000000
set_option maxRecDepth 100000
namespace Go.Src
section
open Go.Asm (Str)
def dD:List Fn->Str->Option Fn|[],_=>N|f::l,s=>if f.name=s then S f else dD l s
def YI l m s:dD (l++m) s=match dD l s with|some x=>S x|none=>dD m s:=by induction l with|nil=>rfl;|cons t l a=>simp only[z6,dD];grind
def jm(fs:List Fn)(s:Str):Bool:=match dD fs s with|some f=>f.word|none=>F
mutual
def eQ(fs:List Fn):Ex->Int
 |.mk kind op _ name kids=>
   if kind<1\/9<kind then 0
   else if kind=1\/kind=2\/kind=5 then 1
   else if kind=3 then(if dL fs 1 kids then 1 else 0)
   else if kind=4 then(if jm fs name && dL fs 1 kids then 1 else 0)
   else if kind=6 then(if dL fs 1 kids then(if op=14\/op=15 then 2 else 1)else 0)
   else(if dL fs 2 kids then 2 else 0)
def dL(fs:List Fn)(t:Int):List Ex->Bool
 |[]=>T
 |e::l=>decide (eQ fs e=t)&&dL fs t l
end
mutual
def jz(fs:List Fn):Ex->Bool
 |.mk kind _ _ name kids=>(if kind=4 then(dD fs name).isSome else T) && dF fs kids
def dF(fs:List Fn):List Ex->Bool
 |[]=>T
 |e::l=>jz fs e&&dF fs l
end
mutual
def oY(fs:List Fn):Stm->Bool
 |.mk kind name e a el=>(if kind=6 then(dD fs name).isSome else T) && dF fs e && (cW fs a && cW fs el)
def cW(fs:List Fn):List Stm->Bool
 |[]=>T
 |s::l=>oY fs s&&cW fs l
end
mutual
def lj(fs:List Fn)(w:Bool):Stm->Bool
 |.mk kind name e a el=>!(kind == 6 && jm fs name) && !(kind == 7 && decide (0<z e) && !w) && dL fs (if kind=4\/kind=5 then 2 else 1) e && (bU fs w a && bU fs w el)
def bU(fs:List Fn)(w:Bool):List Stm->Bool
 |[]=>T
 |s::l=>lj fs w s&&bU fs w l
end
def uk(p:Prog):Nat:=if (p.f.all λf=>cW p.f f.body)=F then 4 else if (p.f.all λf=>bU p.f f.word f.body)=F then 5 else 0
def bN(p:Prog):Nat:=if ct p=F then 7 else if lh p≠0 then lh p else uk p
end
open Go.Asm (Str)
open Go.Mach (applyN)
structure Sg where
 out:Str
 rd:Nat
 tk:Nat
def Sg.tick(G:Sg):Sg:=⟨G.out,G.rd,G.tk+1⟩
def DO(inp:Str)(k:Nat):Nat:=match inp[k]? with|some x=>x.toNat|none=>256
def AW(inp:Str)(k:Nat):Nat:=match inp[k]? with|some _=>k+1|none=>k
end Go.Src
namespace Go.Proofs.YtfdbpgoicedpcaaGreatDoor
section
open Go Go.Am Go.Asm
attribute[local congr]ite_cc
def pG c:aR Tryz.prog 184 [iv .u8 c.toNat] (·=bv (digit c)):=by refine hdP Tryz.func184 rfl [2] λg=>?_;simp only[go_sem];have e:=@we c;grind
def sJ c:aR Tryz.prog 187 [iv .u8 c.toNat] (·=bv (letter c)):=by refine hdP Tryz.func187 rfl [2] λg=>?_;simp only[go_sem];have e:=@yY c;grind
def TY(c:UInt8):aR Tryz.prog 116 [iv .u8 c.toNat] (·=bv (c !=10)):=by
 refine hdP Tryz.func116 rfl [2] λg=>?_;by_cases h:c=10;.subst h;have a:(((10:UInt8).toNat:Nat):Int)=10:=rfl;simp only[go_sem,a];rfl
 .have a:¬((c.toNat:Nat):Int)=10:=tc h;have hb:(c !=10)=T:=by simpa using h
  simp only[go_sem,a,hb]
def Bu c:aR Tryz.prog 189 [iv .u8 c.toNat] (·=bv (eK c)):=by
 refine hdP Tryz.func189 rfl [2] λg=>?_;simp only[go_sem];refine cD rfl (by simp only[go_sem];exact sJ c) ?_;rintro _ rfl;unfold eK;cases hl:letter c
 .simp only[go_sem];refine cD rfl (by simp only[go_sem];exact pG c) ?_;rintro _ rfl;cases hd:digit c
  .by_cases h:c=95;.subst h;have a:(((95:UInt8).toNat:Nat):Int)=95:=rfl;simp only[go_sem,a];rfl
   .have a:¬((c.toNat:Nat):Int)=95:=tc h;have hb:(c==95)=F:=by simpa using h
    simp only[go_sem,a,hb,Bool.or_false]
  .simp only[go_sem,Bool.or_true,Bool.true_or]
 .simp only[go_sem,Bool.true_or]
def qw{p}:∀{s:Str}{k},(s.take k).all p=T->(s[k]?).all (λc=>!p c)=T->s.takeWhile p=s.take k|[],k,_,_=>by simp;|a::s,0,_,h=>by simp_all;|a::s,k+1,U,Z=>by simp only[D5,D1,l6]at U;rw[w8]at Z;rw[H9,s5 U.1,D5,qw U.2 Z]
def xY{f}{p}(l:∀c,aR Tryz.prog f [iv .u8 c.toNat] (·=bv (p c)))(s:Str)(r:z s<=1000000000):aR Tryz.prog 115 [sv s,.one (.d (.fn f))] (·=sv (s.takeWhile p)):=by
 refine hdP Tryz.func115 rfl [4] λg=>?_;simp only[go_sem];refine ij (λn K=>∃k:Nat,n+k=z s/\K.f 0=sv s/\K.f 1=.one (.d (.fn f))/\K.f 5=ae k/\(s.take k).all p=T) (z s) ?_ ?_;.refine⟨0,a7,?_⟩;simp only[go_sem];rfl
 rintro n fs g t⟨k,u,a,e,b,bs⟩;simp only at a e b;have bk:(0:Int)<=(k:Int):=a7;by_cases q:k<z s
 .obtain⟨c,i⟩:=getq q;have H:(k:Int)<(z s:Int):=a7;simp only[go_sem,a,e,b,H,i,bk];refine gU rfl c8 (by simp only[go_sem];exact l c) c8 ?_;rintro _ rfl;cases B:p c;.have j:=qw bs ZN;simp only[go_sem,a,b];grind
  .simp only[go_sem,b,ah (k:=k) a7];refine dN (n-1) a7 ⟨k+1,a7,?_⟩;simp only[go_sem,a,e];simp_all[C1]
 .obtain rfl:k=z s:=a7;have H:¬(z s:Int)<(z s:Int):=a7;have j:=qw bs b9;rw[j,E8];simp only[go_sem,a,b,H];simp
def Ff{s t:Str}:t.isPrefixOf s=decide (z t<=z s/\s.take (z t)=t):=by
 rw[US,S7,v8];constructor;.rintro⟨r,rfl⟩;simp
 grind
def Pa s p:preB p s=p.isPrefixOf s:=by rw[Ff];grind[preB]
def xu(s t:Str):aR Tryz.prog 114 [sv s,sv t] (·=bv (t.isPrefixOf s)):=by refine hdP Tryz.func114 rfl [4] λg=>?_;simp only[go_sem];refine cD rfl (by simp only[go_sem];exact Eg s t) ?_;rintro _ rfl;simp only[go_sem,Pa]
def TZ{s}{c}{x}(h:Frz s c x):oh s (.one c) (.one (.d x)):=⟨_,h,rfl⟩
def qx(t:Src.Tok):List D:=[.int .i64 (t.kind:Nat),.str t.text,.int .u32 (t.num:Nat),.int .i64 (t.place:Nat)]
def sU(t:Src.Tok):AV:=.agg ((qx t).map .d)
def uM:Src.R (Nat×Str×Nat)->AV|.ok (k,t,v)=>.tup [sU ⟨k,t,v,0⟩,ae 0]|.err e=>.tup [sU ⟨0,[],0,0⟩,ae (e:Nat)]
def fy{s}{k v e}{t:Str}:uD s [.agg [ag (k:Nat),bW t,.d (.int .u32 (v:Nat)),ag 0],ae (e:Nat)] (.tup [sU ⟨k,t,v,0⟩,ae e]):=by refine⟨_,⟨_,_,rfl,⟨[.int .i64 (k:Nat),.str t,.int .u32 (v:Nat),.int .i64 0],rfl,λi c l=>?_,rfl⟩,_,_,rfl,mn _,rfl⟩,rfl⟩;match i,l with|0,l=>cases l;exact⟨_,rfl,.d _⟩;|1,l=>cases l;exact⟨_,rfl,.d _⟩;|2,l=>cases l;exact⟨_,rfl,.d _⟩;|3,l=>cases l;exact⟨_,rfl,.d _⟩
def Ua c n:n<=Gi n c:=by grind[Gi]
def Li s k:je (s.take k)<=je s:=by
 have h:∀(l:Str)(n:Nat),n<=l.foldl Gi n:=λl=>by induction l with|nil=>simp;|cons c l a=>intro n;exact C4 (Ua c n) (a _)
 conv=>rhs;rw[<-G3 k s]
 grind[je]
def HD(s:Str)(E:z s<=1000000000)(hd:s.all digit=T):aR Tryz.prog 185 [sv s] (·=uM (if 4294967295<je s then .err 2 else .ok (2,s,je s))):=by
 refine hdR Tryz.func185 rfl [.cell 2 165,.tmp 3] λg=>?_;simp only[go_sem];refine ij (λn K=>∃k:Nat,n+k=z s/\K.f 0=sv s/\K.f 2=aj 2 (nxC 166 (g 2)) 0/\K.gen 2=nxC 166 (g 2)/\K.obj 2=S [ag 0,bW [],.d (.int .u32 0),ag 0]/\K.f 4=iv .u64 (je (s.take k):Nat)/\K.f 5=ae k/\je (s.take k)<=4294967295) (z s) ?_ ?_;.refine⟨0,a7,?_⟩;simp only[go_sem];exact⟨rfl,a8⟩
 rintro n f G I⟨k,J,i,j,l,o,p,r,bl⟩;simp only at i j l o p r;have bk:(0:Int)<=(k:Int):=a7;by_cases B:k<z s
 .obtain⟨c,u⟩:=getq B;have H:(k:Int)<(z s:Int):=a7;have bc:=KJ u;have a:=Li s (k+1);have b:=we.1 (z7.1 hd c (l8 u));have w:IntKind.u64.wrap ((je (s.take k):Int)*10)=((je (s.take k)*10:Nat):Int):=by rw[IntKind.wrap_u64];omega
  have x:IntKind.u8.wrap ((c.toNat:Int)-48)=((c.toNat-48:Nat):Int):=by rw[IntKind.wrap_u8];omega
  have y:IntKind.u64.wrap ((c.toNat-48:Nat):Int)=((c.toNat-48:Nat):Int):=by rw[IntKind.wrap_u64];omega
  have w4:IntKind.u64.wrap (((je (s.take k)*10:Nat):Int)+((c.toNat-48:Nat):Int))=(je (s.take (k+1)):Int):=by rw[IntKind.wrap_u64,bc];omega
  by_cases q:4294967295<je (s.take (k+1));.have W:(4294967295:Int)<(je (s.take (k+1)):Int):=a7;rw[s5 a7];simp only[go_sem,i,j,l,o,p,r,H,bk,u,w,x,y,w4,W];exact⟨_,fy,rfl⟩
  .have W:¬(4294967295:Int)<(je (s.take (k+1)):Int):=a7;simp only[go_sem,i,p,r,H,bk,u,w,x,y,w4,W,ah (k:=k) a7];refine dN (n-1) a7 ⟨k+1,a7,?_⟩;simp only[go_sem,i,j,l,o];omega
 .obtain rfl:k=z s:=a7;have H:¬(z s:Int)<(z s:Int):=a7;rw[s6 (l7 _)]at p bl;have t:IntKind.u32.wrap (je s:Int)=(je s:Int):=by rw[IntKind.wrap_u32];omega
  rw[l4 a7];simp only[go_sem,i,j,l,o,p,r,H,t];exact⟨_,fy,rfl⟩
def xv:Str->Src.R (Nat×Str×Nat)|c::x::y::_=>if y=39/\32<=x.toNat/\x.toNat<=126/\x≠39/\x≠92 then .ok (2,[c,x,y],x.toNat)else .err 3|_=>.err 3
def Pe(s:Str):aR Tryz.prog 186 [sv s] (·=uM (xv s)):=by
 refine hdR Tryz.func186 rfl [.cell 2 165,.tmp 3] λg=>?_;by_cases u:z s<3
 .have l:(z s:Int)<3:=a7;have hb:xv s=.err 3:=by match s,u with|[],_=>rfl;|[_],_=>rfl;|[_,_],_=>rfl;|_::_::_::_,h=>grind
  rw[hb];simp only[go_sem,l];exact sn
 obtain⟨c,x,y,r,rfl⟩:∃c x y r,s=c::x::y::r:=by match s,u with|c::x::y::r,_=>simp;|[],h=>simp at h;|[_],h=>simp at h;|[_,_],h=>simp at h
 have l:¬(z (c::x::y::r):Int)<3:=a7;have Z:(c::x::y::r)[2]?=S y:=rfl;have U:(c::x::y::r)[1]?=S x:=rfl;have w:(c::x::y::r).take 3=[c,x,y]:=rfl;have o:3<=z (c::x::y::r):=b9;rw[show xv (c::x::y::r)=(if y=39/\32<=x.toNat/\x.toNat<=126/\x≠39/\x≠92 then .ok (2,[c,x,y],x.toNat)else .err 3)from rfl];generalize (c::x::y::r)=s at l Z U w o;by_cases n:y=39;case neg=>have a:¬((y.toNat:Nat):Int)=39:=tc (d:=39) n;rw[l4 (λh=>n h.1)];simp only[go_sem,l,Z,a];exact sn
 have a:((y.toNat:Nat):Int)=39:=by rw[n];rfl
 by_cases A:32<=x.toNat;case neg=>have b:((x.toNat:Nat):Int)<32:=a7;rw[l4 (λh=>A h.2.1)];simp only[go_sem,l,Z,U,a,b];exact sn
 have b:¬((x.toNat:Nat):Int)<32:=a7;by_cases B:x.toNat<=126;case neg=>have f:(126:Int)<((x.toNat:Nat):Int):=a7;rw[l4 (λh=>B h.2.2.1)];simp only[go_sem,l,Z,U,a,b,f];exact sn
 have f:¬(126:Int)<((x.toNat:Nat):Int):=a7;by_cases p:x=39
 .have i:((x.toNat:Nat):Int)=39:=by rw[p];rfl
  rw[l4 (λh=>h.2.2.2.1 p)];simp only[go_sem,l,Z,U,a,b,f,i];exact sn
 have i:¬((x.toNat:Nat):Int)=39:=tc (d:=39) p;by_cases q:x=92
 .have j:((x.toNat:Nat):Int)=92:=by rw[q];rfl
  rw[l4 (λh=>h.2.2.2.2 q)];simp only[go_sem,l,Z,U,a,b,f,i,j];exact sn
 have j:¬((x.toNat:Nat):Int)=92:=tc (d:=92) q;rw[s5 ⟨n,A,B,p,q⟩];have t:IntKind.u32.wrap ((x.toNat:Nat):Int)=((x.toNat:Nat):Int):=by have:=x.toNat_lt;rw[IntKind.wrap_u32];omega
 simp only[go_sem,l,Z,U,a,b,f,i,j];refine cJ c9 ?_;simp only[go_sem,U,t,D6,w];exact⟨o,_,fy (k:=2) (e:=0),rfl⟩
def mL(o:cM):Prop:=∀w:World,tG 4 o w->(∀(i:Nat)t,Src.jw[i]?=S t->w.cell? ⟨3,i,N⟩=S (.string ⟨t.toArray⟩))/\(∀(i:Nat)t,Src.ug[i]?=S t->w.cell? ⟨0,i,N⟩=S (.string ⟨t.toArray⟩))
def Fj{o:cM}(ho:mL o)(s:Str):cn Tryz.prog 4 o 191 [sv s] (·=bv (decide (s∈Src.jw))):=by
 refine hdG Tryz.func191 rfl [.tmp 2] λO bc s0 w0 g=>?_;have y:z Src.jw=10:=rfl;simp only[go_sem];refine aF (λn K=>∃k:Nat,n+k=10/\K.f 0=sv s/\K.f 4=ae k/\s∉Src.jw.take k) 10 ?_ ?_;.refine⟨0,rfl,?_⟩;exact Za
 rintro n f A B⟨k,G,a,b,u⟩;simp only at a b;have d:=ah (k:=k) a7;by_cases v:k<10
 .have H:(k:Int)<10:=a7;obtain⟨t,q⟩:=getq (l:=Src.jw) (k:=k) a7;simp only[go_sem,a,b,H];refine sk aN (λs J ds w h=>h.1.2) aP (n:=10) (e:=9) rfl rfl a8 (kd:=.i64) (i:=k) c8 v (cs:=[.str t]) abB (λw d j x I=>by match j,I with|0,I=>cases I;rw[show k*(Tt 9).size+0=k from by show k*1+0=k;omega];exact(ho w d).1 k t q) ?_;by_cases r:t=s;.have E:s∈Src.jw:=r▸l8 q;simp only[go_sem,a,r];grind
  .simp only[go_sem,a,b,r,d];refine ak (n-1) a7 ⟨k+1,a7,?_⟩;simp only[go_sem,a];rw[C1,q];grind
 .obtain rfl:k=10:=a7;rw[s6 a7]at u;simp only[go_sem,a,b,show¬((10:Nat):Int)<10 by decide];grind
def xw(s:Str):Src.R (Nat×Str×Nat):=if 20<z s then .err 2 else if s∈Src.jw then .ok (3,s,0)else .ok (1,s,0)
def Pf{o:cM}(ho:mL o)(s:Str):cn Tryz.prog 4 o 188 [sv s] (·=uM (xw s)):=by
 refine hdG Tryz.func188 rfl [.cell 2 165,.tmp 3] λO bc s0 w0 g=>?_;unfold xw;by_cases b:20<z s;.have a:(20:Int)<(z s:Int):=a7;rw[s5 b];simp only[go_sem,a,iJ];exact⟨_,fy (k:=0) (v:=0) (e:=2),rfl⟩
 have a:¬(20:Int)<(z s:Int):=a7;rw[l4 b];simp only[go_sem,a];refine dm rfl (by simp only[go_sem];exact Fj ho s) ?_;rintro _ rfl;by_cases E:s∈Src.jw;.rw[s5 E,E4 E];simp only[go_sem,iJ];exact⟨_,fy (k:=3) (v:=0) (e:=0),rfl⟩
 .rw[l4 E,G0 E];simp only[go_sem,iJ];exact⟨_,fy (k:=1) (v:=0) (e:=0),rfl⟩
section
def VS:Option Str->Src.R (Nat×Str×Nat)|some t=>.ok (4,t,0)|none=>.err 3
def rR c(r:Str):Src.firstT (c::r)=if digit c=T then(if 4294967295<je ((c::r).takeWhile digit)then .err 2 else .ok (2,(c::r).takeWhile digit,je ((c::r).takeWhile digit)))else if c=39 then xv (c::r)else if letter c=T then xw ((c::r).takeWhile eK)else VS (Src.ug.find? λt=>t.isPrefixOf (c::r)):=by
 unfold Src.firstT xw;by_cases hd:digit c=T;.grind
 simp only[hd];by_cases a:c=39;.simp only[a,B3];match r with|[]=>rfl;|[_]=>rfl;|x::y::r=>rfl
 .simp only[a,B1];rfl
def Lj{H:Type}{p}{l:List H}{k}{x}(h:∀y∈l.take k,p y=F)(I:l[k]?=S x)(b:p x=T):l.find? p=S x:=by
 have a:=(l9.1 I).1;rw[<-G3 k l,List.find?_append,List.find?_eq_none.2 (λy c=>by grind)];have:l.drop k=x::l.drop (k+1):=by rw[B8 a];congr 1;exact F8 ((x9 a).symm.trans I)
 grind
def zB{k v}{t}:uM (.ok (k,t,v))=.tup [.agg [ag k,bW t,.d (.int .u32 v),ag ((0:Nat))],ae 0]:=rfl
def zC{e}:uM (.err e)=.tup [.agg [ag ((0:Nat)),bW [],.d (.int .u32 ((0:Nat))),ag ((0:Nat))],ae e]:=rfl
variable{o:cM}
def Fk c(s:Str)(a:s[0]?=S c)(b:z s<=1000000)(hd:digit c=T){x}(I:(if 4294967295<je (s.takeWhile digit)then .err 2 else .ok (2,s.takeWhile digit,je (s.takeWhile digit)))=x):cn Tryz.prog 4 o 117 [sv s] (·=uM x):=by refine hdG Tryz.func117 rfl [.cell 2 165,.tmp 3] λO bc s0 w0 g=>?_;have hD:=pG c;rw[hd]at hD;have hl:=C4 (QN digit).length_le b;have hN:=HD (s.takeWhile digit) a7 List.all_takeWhile;rw[I]at hN;have ar:=xY pG s a7;generalize s.takeWhile digit=u at hN ar I;simp only[go_sem,a];refine kr rfl abw ?_;rintro _ rfl;simp only[go_sem];refine kr rfl (by simp only[go_sem];exact ar) ?_;rintro _ rfl;simp only[go_sem];refine kr rfl abv ?_;rintro _ rfl;cases x with|ok y=>exact wa;|err e=>exact S4
def HF(s:Str)(a:s[0]?=S 39):cn Tryz.prog 4 o 117 [sv s] (·=uM (xv s)):=by refine hdG Tryz.func117 rfl [.cell 2 165,.tmp 3] λO bc s0 w0 g=>?_;have hD:=pG 39;rw[show digit 39=F from rfl]at hD;have b:(((39:UInt8).toNat:Nat):Int)=39:=rfl;have hB:=Pe s;generalize xv s=x at hB|-;simp only[go_sem,a];refine kr rfl abw ?_;rintro _ rfl;simp only[go_sem,b];refine kr rfl abE ?_;rintro _ rfl;cases x with|ok y=>exact wa;|err e=>exact S4
def HG(ho:mL o) c(s:Str)(b:s[0]?=S c)(j:z s<=1000000)(hd:digit c=F)(a:c≠39)(hl:letter c=T):cn Tryz.prog 4 o 117 [sv s] (·=uM (xw (s.takeWhile eK))):=by refine hdG Tryz.func117 rfl [.cell 2 165,.tmp 3] λO bc s0 w0 g=>?_;have hD:=pG c;rw[hd]at hD;have hL:=sJ c;rw[hl]at hL;have i:¬((c.toNat:Nat):Int)=39:=tc a;have ar:=xY Bu s a7;have hN:=Pf ho (s.takeWhile eK);generalize s.takeWhile eK=u at hN ar|-;generalize xw u=x at hN|-;simp only[go_sem,b];refine kr rfl abw ?_;rintro _ rfl;simp only[go_sem,i];refine kr rfl abu ?_;rintro _ rfl;simp only[go_sem];refine kr rfl (by simp only[go_sem];exact ar) ?_;rintro _ rfl;simp only[go_sem];refine dm rfl abv ?_;rintro _ rfl;cases x with|ok y=>exact wa;|err e=>exact S4
def HH(ho:mL o) c(s:Str)(U:s[0]?=S c)(hd:digit c=F)(a:c≠39)(hl:letter c=F){x}(I:Src.ug.find? (λt=>t.isPrefixOf s)=x):cn Tryz.prog 4 o 117 [sv s] (·=uM (VS x)):=by
 refine hdG Tryz.func117 rfl [.cell 2 165,.tmp 3] λO bc s0 w0 g=>?_;have hD:=pG c;rw[hd]at hD;have hL:=sJ c;rw[hl]at hL;have V:¬((c.toNat:Nat):Int)=39:=tc a;have Y:z Src.ug=24:=rfl;simp only[go_sem,U];refine kr rfl abw ?_;rintro _ rfl;simp only[go_sem,V];refine kr rfl abu ?_;rintro _ rfl;simp only[go_sem];refine aF (λn K=>∃k:Nat,n+k=24/\K.f 0=sv s/\K.f 31=ae k/\K.f 2=aj 2 (nxC 166 (g 2)) 0/\K.gen 2=nxC 166 (g 2)/\K.obj 2=S [ag 0,bW [],.d (.int .u32 0),ag 0]/\∀t∈Src.ug.take k,t.isPrefixOf s=F) 24 ?_ ?_;.refine⟨0,rfl,?_⟩;exact Za
 rintro n f Z ob⟨k,hk,q,m,B,E,G,u⟩;simp only at q m B E G;have J:=ah (k:=k) a7;by_cases Q:k<24
 .have H:(k:Int)<24:=a7;obtain⟨t,L⟩:=getq (l:=Src.ug) (k:=k) a7;have A:=xu s t;have b:∀w:World,tG 4 o w->∀(j:Nat)(x:D),([D.str t]:List D)[j]?=S x->w.cell? ⟨0,k*(Tt 9).size+j,N⟩=S (dV x):=λw J j x I=>by match j,I with|0,I=>cases I;rw[show k*(Tt 9).size+0=k from by show k*1+0=k;omega];exact(ho w J).2 k t L
  simp only[go_sem,q,m,H];refine sk aN (λs W ds w h=>h.1.2) aP rfl rfl a8 c8 Q abB b ?_;simp only[go_sem];refine kr rfl adx ?_;rintro _ rfl;cases hp:t.isPrefixOf s;.simp only[go_sem,m,J];refine ak (n-1) a7 ⟨k+1,a7,?_⟩;simp only[go_sem,q,B,E,G];rw[C1,L];grind
  .rw[Lj (p:=λt=>t.isPrefixOf s) u L hp]at I;subst I;simp only[go_sem];refine sk aN (λs W ds w h=>h.1.2) aP rfl rfl a8 c8 Q abB b ?_;simp only[go_sem,B,E,G];exact⟨_,fy,rfl⟩
 .obtain rfl:k=24:=a7;rw[s6 a7]at u;rw[List.find?_eq_none.2 (λy hy=>by grind)]at I;subst I;simp only[go_sem,m,B,E,G];exact sn
def Uc(ho:mL o) c(r:Str)(b:z (c::r)<=1000000):cn Tryz.prog 4 o 117 [sv (c::r)] (·=uM (Src.firstT (c::r))):=by rw[rR];cases hd:digit c with|true=>simp_all[Fk];|false=>
 rw[l4 b9];by_cases a:c=39;.simp_all[HF,ZN]
 .rw[l4 a];cases hl:letter c with|true=>simp_all[HG];|false=>simp_all[b9,HH]
end
def mQ(l:List Src.Tok):D:=.sl (l.map qx)
def acI(r:List Src.Tok×Nat×Nat):AV:=.tup [.one (.d (mQ r.1)),ae (r.2.1:Nat),ae (r.2.2:Nat)]
def zD(l:List Src.Tok):List C:=l.flatMap λt=>(qx t).map .d
def Bv:∀l:List Src.Tok,z (zD l)=z l*4|[]=>rfl|t::l=>by have a:=Bv l;unfold zD at a|-;rw[A8,j7,a];simp only[qx,j6,j8,l5];omega
def HI l t:zD (l++[t])=zD l++(qx t).map .d:=by grind[zD]
def AA(l:List Src.Tok):Src.R (List Src.Tok)×Nat->Src.R (List Src.Tok)×Nat|(.ok a,p)=>(.ok (l++a),p)|(.err e,p)=>(.err e,p)
def Pg x:AA [] x=x:=by obtain⟨a,b⟩:=x;cases a<;>rfl
def Lk l t x:AA (l++[t]) x=AA l (AA [t] x):=by obtain⟨a,b⟩:=x;cases a<;>simp[AA]
def rT{p}:∀s:Str,s.drop (z (s.takeWhile p))=s.dropWhile p
 |[]=>rfl|c::s=>by
  by_cases h:p c=T;.rw[H9,s5 h,List.dropWhile_cons,s5 h,j8,D9,rT s]
  simp_all
def HJ{s t}{k v}(h:Src.firstT s=.ok (k,t,v)):0<z t/\z t<=z s/\v<4294967296/\k<=4:=by have bs:(Src.ug.all λt=>decide (0<z t))=T:=a8;cases s with|nil=>grind[Src.firstT];|cons c r=>
 rw[rR]at h;have a:∀p:UInt8->Bool,z ((c::r).takeWhile p)<=z (c::r):=λp=>(QN p).length_le;split at h
 .rename_i hd;split at h;.cases h
  .cases h;refine⟨?_,a _,a7,a8⟩;simp_all
 .split at h;.unfold xv at h;grind
  .split at h
   .rename_i hl;unfold xw at h;split at h;.cases h
    .have d:0<z ((c::r).takeWhile eK):=by rw[H9,s5 (by grind[eK])];simp
     grind
   .cases b:Src.ug.find? λt=>t.isPrefixOf (c::r)with|some e=>rw[b]at h;cases h;grind;|none=>rw[b]at h;cases h
def HK{s:Str}{e}(b:s≠[])(h:Src.firstT s=.err e):e=2\/e=3:=by cases s with|nil=>grind;|cons c r=>
 rw[rR]at h;split at h;.grind
 .split at h;.unfold xv at h;grind
  .split at h;.grind[xw]
   .cases a:Src.ug.find? λt=>t.isPrefixOf (c::r)with|some d=>rw[a]at h;cases h;|none=>rw[a]at h;cases h;simp
def acJ{o}(ho:mL o)(s:Str):cn Tryz.prog 4 o 70 [sv s] (·=acI (Src.rY s)):=by
 refine hdG Tryz.func70 rfl [.tmp 2,.tmp 3,.tmp 4] λO bc s0 w0 g=>?_;unfold Src.rY;by_cases q:20000<z s;.have W:(20000:Int)<(z s:Int):=a7;rw[s5 q];simp only[go_sem,W];exact y1
 have W:¬(20000:Int)<(z s:Int):=a7;rw[l4 q];simp only[go_sem,W];refine aF (λn K=>∃(k:Nat)(m:Nat)(l:List Src.Tok),n+k=z s/\z (s.drop k)<m/\Src.lC (z s+1) 0 s=AA l (Src.lC m k (s.drop k))/\z l<=k/\K.f 0=sv s/\K.f 6=ae k/\((l=[]/\K.f 5=.one (.d .nsl))\/(l≠[]/\K.f 5=eS 61 (K.gen 61) 4 0 (z l)/\K.obj 61=S (zD l)))) (z s) ?_ ?_;.refine⟨0,z s+1,[],a7,b9,by rw[Pg];rfl,b9,?_⟩;exact Za
 rintro n f g' ob⟨k,m,l,hk,hm,w,i,J,L,q5⟩;simp only at J L q5;have bk:(0:Int)<=(k:Int):=a7;by_cases af:k<z s;case neg=>
  have H:¬(k:Int)<(z s:Int):=a7;rw[y8 a7]at w;obtain⟨B,rfl⟩:∃B,m=B+1:=⟨m-1,a7⟩;rw[w];have b4:∀k,AA l (Src.lC (B+1) k [])=(.ok l,0):=λk=>by grind[Src.lC,AA]
  rw[b4];rcases q5 with⟨rfl,q5⟩|⟨bz,q5,o5⟩;.simp only[go_sem,J,L,q5,H];exact y1
  .simp only[go_sem,J,L,q5,H];exact⟨_,⟨_,⟨_,_,rfl,TZ (fJ rfl l qx (by simp[o5,zD]) rfl (λt _ x I=>by simp only[qx,A0,A9,D8]at I;rcases I with rfl|rfl|rfl|rfl<;>rfl) (λ_ _=>rfl) rfl),_,_,rfl,mn _,_,_,rfl,mn _,rfl⟩,rfl⟩,rfl⟩
 have H:(k:Int)<(z s:Int):=a7;obtain⟨c,hc⟩:=getq af;have a:s.drop k=c::s.drop (k+1):=by rw[B8 af];congr 1;exact F8 ((x9 af).symm.trans hc)
 obtain⟨B,rfl⟩:∃B,m=B+1:=⟨m-1,a7⟩;have hw:=ah (k:=k) a7;have bf:∀k r,Src.lC (B+1) k (c::r)=if c=32\/c=9\/c=10 then Src.lC B (k+1) r else if c=47/\r.head?=S 47 then Src.lC B (k+z ((c::r).takeWhile (·!=10))) ((c::r).dropWhile (·!=10))else match Src.firstT (c::r)with|.err e=>(.err e,k)|.ok (kd,t,v)=>AA [⟨kd,t,v,k⟩] (Src.lC B (k+z t) ((c::r).drop (z t))):=by
  intro k r;conv=>lhs;unfold Src.lC
  split;.rfl
  .rfl
 rw[a,bf]at w;by_cases cz:c=32\/c=9\/c=10
 .rw[s5 cz]at w;have X:(((c.toNat:Nat):Int)=32)\/(¬((c.toNat:Nat):Int)=32/\((c.toNat:Nat):Int)=9)\/(¬((c.toNat:Nat):Int)=32/\¬((c.toNat:Nat):Int)=9/\((c.toNat:Nat):Int)=10):=by
   rcases cz with rfl|rfl|rfl;.simp
   .simp
   .simp
  rcases X with U|⟨U,Z⟩|⟨U,Z,h3⟩;case' inl=>simp only[go_sem,J,L,H,hc,bk,U,hw]
  case' inr.inl=>simp only[go_sem,J,L,H,hc,bk,Z,hw]
  case' inr.inr=>simp only[go_sem,J,L,H,hc,bk,h3,hw]
  all_goals refine ak (n-1) a7 ⟨k+1,B,l,a7,by rw[a]at hm;simp only[j8]at hm;omega,w,a7,?_⟩;simp only[go_sem,J];exact q5
 rw[l4 cz]at w;have b1:¬((c.toNat:Nat):Int)=32:=tc λh=>cz (.inl h);have b2:¬((c.toNat:Nat):Int)=9:=tc λh=>cz (.inr (.inl h));have A:¬((c.toNat:Nat):Int)=10:=tc λh=>cz (.inr (.inr h));have ca:List.drop k (List.take (z s) s)=s.drop k:=by rw[E8]
 have dk:z (s.drop k)<=1000000:=by rw[G6];omega
 simp only[go_sem,J,L,H,hc,bk,b1,b2,A];refine⟨a7,a7,?_⟩;refine kr rfl (by simp only[go_sem];exact xu (s.drop k) [47,47]) ?_;rintro _ rfl;cases hp:([47,47]:Str).isPrefixOf (s.drop k);case true=>
  obtain⟨r2,Q⟩:=S7.1 hp;have p:c=47/\(s.drop (k+1)).head?=S 47:=by rw[a]at Q;simp only[z6,A3,UN]at Q;exact⟨Q.1.symm,by grind⟩
  rw[s5 p,<-a,<-rT,R9]at w;have Y:z ((s.drop k).takeWhile (·!=10))<=z (s.drop k):=(QN _).length_le;have u:1<=z ((s.drop k).takeWhile (·!=10)):=by rw[a,H9,s5 ZN];simp
  have e2:z (s.drop k)=z s-k:=G6;generalize hT:z ((s.drop k).takeWhile (·!=10))=G at w Y u;have b7:IntKind.i64.wrap ((k:Int)+(G:Int))=((k+G:Nat):Int):=by rw[wrap_i64]<;>omega
  simp only[go_sem,J,L,bk];refine⟨a7,a7,?_⟩;refine kr rfl (by simp only[go_sem];exact xY TY (s.drop k) a7) ?_;rintro _ rfl;simp only[go_sem,hT,b7];refine ak (n-G) a7 ⟨k+G,B,l,a7,by rw[G6];omega,w,a7,?_⟩;simp only[go_sem,J];exact q5
 have b:¬(c=47/\(s.drop (k+1)).head?=S 47):=by rintro⟨U,Z⟩;rw[a,U]at hp;cases V:s.drop (k+1)with|nil=>grind;|cons x y=>grind
 rw[l4 b]at w;have hF:=Uc ho c (s.drop (k+1)) ZN;rw[<-a]at hF w;simp only[go_sem,J,L,bk];refine⟨a7,a7,?_⟩;refine dm rfl adh ?_;rintro _ rfl;cases hf:Src.firstT (s.drop k)with|err e=>have he:=HK ZN hf;have b6:¬(e:Int)=0:=a7;rw[hf]at w;rw[w];unfold uM sU qx;simp only[go_sem,s7,x7,b6,L];exact y1;|ok x=>
 obtain⟨kd,t,v⟩:=x;obtain⟨t1,t2,t3,E⟩:=HJ hf;rw[hf]at w;simp only at w;rw[R9,<-Lk]at w;have e2:z (s.drop k)=z s-k:=G6;have b7:IntKind.i64.wrap ((k:Int)+(z t:Int))=((k+z t:Nat):Int):=by rw[wrap_i64]<;>omega
 unfold uM sU qx;rcases q5 with⟨rfl,q5⟩|⟨bz,q5,o5⟩;.simp only[go_sem,s7,x7,L,q5,bm,b7];refine⟨⟨a8,a8⟩,?_⟩;refine ak (n-z t) a7 ⟨k+z t,B,[⟨kd,t,v,k⟩],a7,by rw[G6];omega,w,by grind,?_⟩;simp only[go_sem,J];first|exact .inr rfl|exact .inr ⟨by simp,rfl⟩|exact .inr ⟨by simp,rfl,rfl⟩
 .have j:=Bv l;simp only[go_sem,s7,x7,L,q5,o5,bm,b7];refine⟨a7,⟨a8,a7⟩,?_⟩;refine ak (n-z t) a7 ⟨k+z t,B,l++[⟨kd,t,v,k⟩],a7,by rw[G6];omega,w,by grind,?_⟩;simp only[go_sem,J];refine .inr ⟨b9,b9,?_⟩;rw[HI,s6 a7];rfl
end
section
open Go Go.Am Go.Asm
end
section
open Go Go.Am Go.Asm Go.RowKit Go.Sort Go.Lib Go.Proofs
def Fg(o:cM):Prop:=∀w:World,tG 4 o w->Lib.TabIs Tryz.prog w "internal/strconv.uint64pow10" .u64 Lib.pow10Tab
def grown(w:World)(k:Nat)(os:Array Obj):w.heap.size<=(grow (w.drewN k) os).heap.size/\(∀b,b<w.heap.size->(grow (w.drewN k) os).heap[b]?=w.heap[b]?)/\((grow (w.drewN k) os).os=w.os/\(grow (w.drewN k) os).output=w.output):=⟨b9,λb a=>heap_grow_old (w.drewN k) os a,rfl,rfl⟩
end
section
open Go Go.Am Go.RowKit
def Fh:Tryz.prog.underlying 55=S (.pointer 58):=b9
def Pb:Tryz.prog.underlying 221=S .unsafePointer:=b9
def VR:Tryz.prog.underlying 58=S (.struct #[⟨ "addr",55,0,F,"","strings",0⟩,⟨ "buf",56,1,F,"","strings",8⟩]):=b9
def acF:Tryz.prog.underlying 4=S .bool:=b9
def Pd:∃j,Tryz.prog.info? 58=S j/\j.size=2:=by obtain⟨i,a,b,_⟩:=aem.info;exact⟨i,a,b⟩
def Yi:∃j,Tryz.prog.info? 55=S j/\j.size=1:=by obtain⟨i,a,b,_⟩:=aba.info;exact⟨i,a,b⟩
def zA(b:Nat)(w:World)(f:w.cell? ⟨b,0,N⟩=S (.pointer (S ⟨b,0,N⟩))):Calls Tryz.prog 81 #[.pointer (S ⟨b,0,N⟩)] w λe w'=>e=.returned (.tuple #[])/\w'=w:=by obtain⟨j,d,_⟩:=Pd;have a:=run_underlying Fh;have c:=run_underlying VR;have u4:=run_underlying acF;go_enter Tryz.func81,Tryz.ntmps81;go_wp2;rw[Lib.run_neq_ptr_same w _ Fh d];go_wp2;go_end0;simp
def Ub:Tryz.prog.cellsOf 58=2:=j0
def Yj:Ce Tryz.prog 81:=⟨_,Tryz.func81,rfl,c8⟩
def acG(c:UInt8):C:=.d (.int .u8 c.toNat)
def acH:Tryz.prog.underlying 112=S (.pointer 5):=b9
def Yk:Tryz.prog.cellsOf 5=1:=j0
end
section
open Go Go.Am Go.Asm
def Fi(code:List Nat)(d:Int):AV:=.agg [.d (iC code),ag d]
end
open Go Go.Am Go.Asm Go.RowKit
attribute[local congr]ite_cc
def JC:Tryz.prog.cellsOf 60=2:=j0
def acM:Tryz.prog.underlying 60=S (.struct #[⟨ "text",58,0,F,"","seedcorn/syntax",0⟩]):=b9
def Yu{n:Nat}(a:2<=n):liesAt Tryz.prog Tryz.prog.depth 60 (n/Tryz.prog.cellsOf 60) 0 58 1=T:=by rw[JC];have hd:Tryz.prog.depth=(2*(Tryz.prog.types.size+Made.depth))+1+1:=rfl;have U:1<=n/2:=a7;rw[hd];simp only[liesAt,G9];left;rw[hd];simp[rowAt,JC,Ub,acM,U,sameLayout];omega
def wE(b n:Nat)(w:World)(o:w.cell? ⟨b,0,N⟩=S (.pointer N))(m:w.shape? b=S (60,n))(l:2<=n)(p:w.frozen? ⟨b,0,N⟩=F):Calls Tryz.prog 81 #[.pointer (S ⟨b,0,N⟩)] w λe w'=>e=.returned (.tuple #[])/\w'=w.setCell ⟨b,0,N⟩ (.pointer (S ⟨b,0,N⟩)):=by obtain⟨j,k,d⟩:=Pd;obtain⟨i,g,f⟩:=Yi;have a:=run_underlying Fh;have c:=run_underlying VR;have u4:=run_underlying acF;have h:=run_underlying Pb;go_enter Tryz.func81,Tryz.ntmps81;go_wp2;rw[Lib.run_to_unsafe w ⟨b,0,N⟩ Fh Pb k a7 m ZN];simp only[Result.andThen];rw[Oper.upon_value];go_wp2;rw[run_callFunc_extern Tryz.func124 c8 c8 j0 (e:=Extern.AbiNoEscape.same) j0];rw[Lib.run_noEscape];simp only[Result.andThen];rw[Oper.upon_value];go_wp2;rw[Lib.run_from_unsafe w ⟨b,0,N⟩ Pb Fh k m (Yu l)];simp only[Result.andThen];rw[Oper.upon_value];go_wp2;go_end0;simp
variable{g:Nat->Nat}
def CQ{b X:Nat}{ob:Obs}{a buf:C}(hg:g b=X)(hc:code X=61)(ho:ob b=S [a,buf])(ha:a=.d .nilp\/a=.ptr b X 0):
  iK Tryz.prog 81 [aj b X 0] g ob (λr g' Y=>r=uv/\g'=g/\Y=upd ob b (S [.ptr b X 0,buf])):=by
 refine⟨Yj,λO al s k I w vs V q=>?_⟩;simp only[bg]at q;obtain⟨u,W,rfl,L,rfl⟩:=q;have l:=L;simp only[ao,aQ]at L;obtain⟨n,H,bn,rfl⟩:=L.2.2 hg ZN;have bk:=V.obj b _ ho;rw[H]at bk;obtain⟨hB,arr,el,lo,hi,A,⟨ar,x⟩,J,bs⟩:=bk.cells bn;simp only at x;rw[hg,hc]at x;obtain⟨y,c⟩:=x a7;have y:el=60:=Nat.add_right_cancel (m:=1) y;subst y;simp only[j8,l5]at J;rw[c]at J;simp only[J3,c];have h:ao O s g ob w uv (.tuple #[]):=du;obtain⟨E,bl,bz⟩:=bs 0 a rfl;rw[c]at bl;have K:w.cell? ⟨n.block,0,N⟩=S E:=by rw[fM A];exact bl
 rcases ha with rfl|rfl
 ·-- it f j address
  have q:E=.pointer N:=by simp only[aQ]at bz;cases bz;rfl
  subst q
  have b3:tB (Tt 55) ⟨I,g,ob⟩ (aj b X 0) (aj b X 0) (bx λQ=>Q=⟨I,g,upd ob b (S [.ptr b X 0,buf])⟩):=by
   simp only[go_sem,hg,ho]
  obtain⟨Q,G,rfl,U,Z,h3⟩:=uH aP V b3 l l;have b0:=qK (P:=Tryz.prog) (w:=w) (t:=55) (p:=Tt 55) aba (b:=n.block) (o:=0) (v:=.pointer (S ⟨n.block,0,N⟩)) (vs:=[.pointer (S ⟨n.block,0,N⟩)]) rfl rfl ZN A ar ZN;simp only[J3,c]at U;rw[U]at b0;have bc:G=w.setCells n.block 0 [.pointer (S ⟨n.block,0,N⟩)]:=by injection b0
  refine(wE n.block arr.size w K (by simp[World.shape?,A]) a7 (ss A ar a7)).mono λe w2⟨q1,q2⟩=>?_;have b7:w2=G:=by rw[q2,bc];rfl
  subst b7;exact⟨_,uv,g,_,s,q1,⟨rfl,rfl,rfl⟩,du,Z.obj,Z.inj,h3⟩
 .have q:E=.pointer (S ⟨n.block,0,N⟩):=by
   simp only[aQ]at bz;obtain⟨cy,B,_,e⟩:=bz.2.2 hg ZN;rw[H]at B;cases B;rw[e,c]
  subst q;refine(zA n.block w K).mono λe G⟨U,Z⟩=>?_;subst Z;have he:upd ob b (S [.ptr b X 0,buf])=ob:=by funext i;simp only[upd];split<;>simp_all
  exact⟨_,uv,g,ob,s,U,⟨rfl,rfl,he.symm⟩,h,V.obj,V.inj,Tr.refl⟩
structure Tap (G f H:Nat) (W:Str) (g:Nat->Nat) (ob:Obs):Prop where
 gen:g G=H
 code:code H=61
 obj:∃a,(a=.d .nilp\/a=.ptr G H 0)/\ob G=some [a,.osl f (g f) 1 0 W.length]bc:Am.code (g f)=6
 buf:ob f=some (W.map acG)ne:G≠f
def Ft{G f H:Nat}{W:Str}{ob:Obs}(t:Str)(h:Tap G f H W g ob)(hl:z W<=1000000000)(p:z t<=1000000000):iK Tryz.prog 48 [aj G H 0,sv t] g ob (λr g' Y=>r=.tup [ae (z t),.one (.d .nili)]/\Tap G f H (W++t) g' Y/\∀i,i≠G->i≠f->g' i=g i/\Y i=ob i):=by
 refine hdF 0 Tryz.func48 rfl [4,5] ?_;obtain⟨b,j,⟨a,k,ho⟩,l,n,bz⟩:=h;have o:¬f=G:=λe=>bz e.symm;simp only[go_sem];refine cY rfl (by simp only[go_sem];exact CQ b j ho k) ?_;rintro _ g' Y⟨rfl,rfl,rfl⟩;simp only[go_sem,b,ho,bz,o,bm,n];refine⟨l7 _,⟨a8,a7⟩,_,ai.refl _,c8,⟨?_,j,⟨_,.inr rfl,?_⟩,?_,?_,bz⟩,λi U Z=>?_⟩;.simp[upd,bz,b]
 .simp[upd]
 .simp[upd,nC,apC,l]
 .rw[s6 b9];simp[upd,o];intros;rfl
 .simp[upd,U,Z]
end Go.Proofs.YtfdbpgoicedpcaaGreatDoor
namespace Go.Am
attribute[local congr]ite_cc
def nu{P:Prop}(h:P:=by (try simp only[upd]);(repeat rw[l4 (by omega)])):P:=h
def nt{P Q:Prop}(q:Q)(h:P=Q:=by (try simp only[upd]);(repeat rw[l4 (by omega)])):P:=h▸q
def fi{av bn:Obs}{B b}(hf:∀i,B<=i->av i=N)(h:∀i,b<=i->B<=i/\bn i=av i:=by (intro i hi;refine⟨by omega,?_⟩;(try simp only[upd]);(repeat rw[l4 (by omega)]))):∀i,b<=i->bn i=N:=λi hi=>(h i hi).2.trans (hf i (h i hi).1)
end Go.Am
namespace Go.Proofs.YtfdbpgoicedpcaaGreatDoor
section
open Go Go.Am Go.Asm
open Go.Src (PR eI aM takeN bj)
attribute[local congr]ite_cc
def rdC(A:List Src.Tok)(n fin:Nat):List C:=[.d (mQ A),ag (n:Nat),ag (fin:Nat)]
def oI(A:List Src.Tok)(fin n:Nat):Nat:=match A[n]? with|some t=>t.place|none=>fin
def zf(k:Nat):List PanicEntry:=[{v:=.iface 160 (.agg #[.int .i64 (k:Nat)]),recovered:=F}]
variable{A:List Src.Tok}{g:Nat->Nat}{ob:Obs}{B:Nat}{s:St}{n fin:Nat}{y:Option (List C)}
def uS{n:Nat}{t}(h:A[n]?=S t):(A.map qx)[n]?=S [.int .i64 t.kind,.str t.text,.int .u32 t.num,.int .i64 t.place]:=by rw[A4,h];rfl
def OkR{H:Type}(A:List Src.Tok)(fin:Nat)(p:PR H)(enc:H->AV)(g:Nat->Nat)(ob:Obs)(r:AV)(g':Nat->Nat)(Y:Obs):Prop:=g'=g/\∃a m,p=.ok a m/\r=enc a/\Y=upd ob 125 (S (rdC A m fin))
def NoR{H:Type}(A:List Src.Tok)(fin:Nat)(p:PR H)(g:Nat->Nat)(ob:Obs):Pan:=λa g' Y=>g'=g/\∃m,p=.no m/\a=zf (oI A fin m)/\Y=upd ob 125 (S (rdC A m fin))
def iQ{H:Type}(f:FuncId)(xs:List AV)(A:List Src.Tok)(n fin:Nat)(p:PR H)(enc:H->AV):Prop:=∀(B:Nat)(g:Nat->Nat)(ob:Obs),200<=B->(∀i,B<=i->ob i=N)->ob 125=S (rdC A n fin)->dS Tryz.prog f (aj 125 (g 125) 0::xs) g ob (OkR A fin p enc g ob) (NoR A fin p g ob)
structure InF (B:Nat) (g:Nat->Nat) (ob:Obs) (g':Nat->Nat) (Y:Obs):Prop where
 same:∀i,i<B->i≠125->g' i=g i/\Y i=ob i
 rd:g' 125=g 125
def InF.refl:InF B g ob g ob:=⟨λ_ _ _=>⟨rfl,rfl⟩,rfl⟩
def InF.go{g g1 g2}{ob av bn}(h:InF B g ob g1 av)(q:(∀i,i<B->i≠125->g2 i=g1 i/\bn i=av i)/\g2 125=g1 125:=by (refine⟨λi hi h5=>⟨?_,?_⟩,?_⟩<;>((try simp only[upd]);(repeat rw[l4 (by omega)]);first|done|rfl))):InF B g ob g2 bn:=⟨λi hi h5=>⟨(q.1 i hi h5).1.trans (h.same i hi h5).1,(q.1 i hi h5).2.trans (h.same i hi h5).2⟩,q.2.trans h.rd⟩
def InF.put{B j}{g a}{ob av}(h:InF B g ob a av)(d:B<=j):InF B g ob a (upd av j y):=⟨λi b c=>⟨(h.same i b c).1,by simp only[upd];rw[l4 a7];exact(h.same i b c).2⟩,h.rd⟩
def InF.newG{B j x}{g a}{ob av}(h:InF B g ob a av)(d:B<=j)(hB:125<B):InF B g ob (upd a j x) av:=⟨λi b c=>⟨by simp only[upd];rw[l4 a7];exact(h.same i b c).1,(h.same i b c).2⟩,by simp only[upd];rw[l4 a7];exact h.rd⟩
def InF.rdr{g b}{ob av}(h:InF B g ob b av):InF B g ob b (upd av 125 y):=⟨λi c a=>⟨(h.same i c a).1,by simp only[upd];rw[l4 a];exact(h.same i c a).2⟩,h.rd⟩
def InF.ends{B n fin}{g a}{ob av}(h:InF B g ob a av)(ho:av 125=S (rdC A n fin)):Mm B [125] g ob a av/\kS [125] g a=g/\iA [125] ob av=upd ob 125 (S (rdC A n fin)):=by refine⟨⟨λi b f=>h.same i b ZN,λi b d e c k=>?_⟩,Mq h.rd,by rw[Mr,ho]⟩;obtain rfl:=C8.1 b;rw[ho]at e;cases e;simp only[rdC,A0,A9,D8]at k;rcases k with rfl|rfl|rfl<;>trivial
def InF.ret{H}{B n fin}{p}{enc}{j rs}{a:H}(h:InF B g ob s.gen s.obj)(ho:s.obj 125=S (rdC A n fin))(b:p=.ok a n)(c:fT B s j rs)(V:pack rs=enc a):bS B [125] g ob (OkR A fin p enc g ob) s j:=by obtain⟨U,Z,d⟩:=h.ends ho;exact⟨U,rs,c,Z,a,n,b,V,d⟩
def InF.pan{H}{B n fin}{g a}{ob av}{p:PR H}{b}(h:InF B g ob a av)(ho:av 125=S (rdC A n fin))(c:p=.no n)(d:b=zf (oI A fin n)):Mm B [125] g ob a av/\NoR A fin p g ob b (kS [125] g a) (iA [125] ob av):=by obtain⟨U,Z,e⟩:=h.ends ho;exact⟨U,Z,n,c,d,e⟩
section
variable{O:Bs}{rd:Option Nat}{e:St->Am.Loc->List Deferred->World->Prop}
def aU{H c}(a6:bA O e){o}{K}{k:Box K}{f}{args}{tys}(ho:o.op=.call ⟨.value (.func f),args,tys⟩){xs}{p}{enc:H->AV}(V:iQ f xs A n fin p enc)(I:args.toList.map s.ev=aj 125 (s.gen 125) 0::xs) b(hB:200<=b)(bl:∀i,b<=i->s.obj i=N)(bk:s.obj 125=S (rdC A n fin)){B l}{d:PR c}(E:InF B g ob s.gen s.obj)(u:∀m,p=.no m->d=.no m)(v:∀a m,p=.ok a m->K (St.put ⟨s.f,s.gen,upd s.obj 125 (S (rdC A m fin))⟩ o.dst (enc a))):bE (spF Tryz.prog rd O e l (Mp B [125] g ob (NoR A fin d g ob))) o s k:=by
 refine cN a6 ho (by rw[I];exact V b s.gen s.obj hB bl bk) ?_ ?_;.rintro w q Y⟨rfl,m,j,t,rfl⟩;exact E.rdr.pan c8 (u m j) t
 .rintro r q Y⟨rfl,a,m,j,rfl,rfl⟩;grind
end
def uT(xs:List D):oh s (.agg (xs.map .d)) (.agg ((xs.map jI).map .d)):=by refine⟨xs.map jI,b9,λi c a=>?_,rfl⟩;rw[A4]at a|-;cases b:xs[i]?with|none=>grind;|some x=>rw[b]at a;cases a;exact⟨_,rfl,.d x⟩
def nlo(hB:200<=B) k:(125=B+k)=False:=by grind
def nhi(hB:200<=B) k:(B+k=125)=False:=by grind
def NL(ho:ob 125=S (rdC A n fin)):iK Tryz.prog 119 [aj 125 (g 125) 0] g ob (λr g' Y=>r=ae (eI A n)/\g'=g/\Y=ob):=by
 refine hdF 9000 Tryz.func119 rfl [2] ?_;unfold rdC mQ at ho;have d:(0:Int)<=(n:Int):=a7;simp only[go_sem];refine cJ c9 ?_;unfold eI;by_cases e:n<z A;.have H:(n:Int)<(z A:Int):=a7;obtain⟨t,b⟩:=getq e;rw[b];simp only[go_sem,ho,j6,H];refine cJ c9 ?_;simp only[go_sem,ho,d,uS b];exact⟨_,ai.refl _,rfl,rfl,rfl⟩
 .have H:¬(n:Int)<(z A:Int):=a7;rw[I1 a7];simp only[go_sem,ho,j6,H];exact⟨_,ai.refl _,rfl,rfl,rfl⟩
def Hc{B n fin}(hB:200<=B)(j:∀i,B<=i->ob i=N)(ho:ob 125=S (rdC A n fin)):iK Tryz.prog 118 [aj 125 (g 125) 0] g ob (λr g' Y=>r=sv (aM A n)/\g'=g/\Y=ob):=by
 refine Gq B aP mixed Tryz.func118 rfl c8 [2] rfl c8 b9 j ?_;unfold rdC mQ at ho;simp only[go_sem];refine cJ c9 ?_;unfold aM;by_cases o:n<z A;case neg=>have H:¬(n:Int)<(z A:Int):=a7;rw[I1 a7];simp only[go_sem,ho,j6,H]
 have H:(n:Int)<(z A:Int):=a7;obtain⟨t,e⟩:=getq o;have a:=uS e;rw[e];simp only[go_sem,ho,j6,H];refine iU aP mixed [B+3] [([0],[0],[],F),([14],[0],[],F),([15],[0],[],F),([16],[0],[],F),([0],[0],[],F),([18],[0],[],F),([19],[0],[],F),([20],[0],[],F),([17,21],[0],[],F),([22],[0],[],F),([],[],[0],F),([3,23],[],[],T)] 1 c9 rfl b9 ?_;simp only[go_sem];iterate 10 (refine aX (λ_ _ _ _ J=>by simp only[go_sem,ho,a7,a,nlo hB]at J|-;exact J) ?_)
 (refine dJ Z4 ?_);apply dQ;intro p f;simp only[go_sem];refine f _ ?_;clear f p;have d:(t.kind=3\/t.kind=4)↔((t.kind:Int)=3\/(t.kind:Int)=4):=a7;by_cases b:(t.kind:Int)=3;.rw[s5 (d.2 (.inl b))];simp only[go_sem,b];grind
 by_cases c:(t.kind:Int)=4;.rw[s5 (d.2 (.inr c))];simp only[go_sem,c];grind
 .rw[l4 (λh=>(d.1 h).elim b c)];simp only[go_sem,b,c];grind
def afn(A:List Src.Tok)(n fin:Nat)(s:Str)(g:Nat->Nat)(ob:Obs)(r:AV)(g':Nat->Nat)(Y:Obs):Prop:=g'=g/\((aM A n=s/\r=bv T/\Y=upd ob 125 (S (rdC A (n+1) fin)))\/(aM A n≠s/\r=bv F/\Y=ob))
def acb{B n fin}(hB:200<=B)(hf:∀i,B<=i->ob i=N)(ho:ob 125=S (rdC A n fin))(hn:n<=1000000)(s:Str):iK Tryz.prog 73 [aj 125 (g 125) 0,sv s] g ob (afn A n fin s g ob):=by
 refine hdF B Tryz.func73 rfl [4] ?_;unfold rdC mQ at ho;simp only[go_sem];refine cY rfl (by simp only[go_sem];exact Hc hB hf ho) ?_;rintro _ d e⟨rfl,rfl,rfl⟩;by_cases a:aM A n=s;.simp only[go_sem,a,ho,ah (k:=n) a7];refine⟨_,ai.refl _,rfl,.inl ⟨a,rfl,?_⟩⟩;rfl
 .simp only[go_sem,a];exact⟨_,ai.refl _,rfl,.inr ⟨a,rfl,rfl⟩⟩
def Cq(ho:ob 125=S (rdC A n fin)):dS Tryz.prog 72 [aj 125 (g 125) 0] g ob (λ_ _ _=>False) (λd g' Y=>d=zf (oI A fin n)/\g'=g/\Y=ob):=by
 refine hdX 9000 Tryz.func72 rfl [] λO bc s0 w0=>?_;unfold rdC mQ at ho;have e:(0:Int)<=(n:Int):=a7;simp only[go_sem];refine aZ c9 ?_;unfold oI;by_cases i:n<z A;.have H:(n:Int)<(z A:Int):=a7;obtain⟨t,b⟩:=getq i;rw[b];simp only[go_sem,ho,j6,H];refine aZ c9 ?_;simp only[go_sem,ho,e,uS b];refine yH (k:=bx _) aa rfl (aP 160 rfl).desc (by simp only[go_sem];exact⟨rfl,rfl⟩) ?_;simp only[go_sem];refine yI (k:=bx _) (t:=160) rfl c8 ?_;exact⟨rfl,rfl,rfl⟩
 .have H:¬(n:Int)<(z A:Int):=a7;rw[I1 a7];simp only[go_sem,ho,j6,H];refine yH (k:=bx _) aa rfl (aP 160 rfl).desc (by simp only[go_sem];exact⟨rfl,rfl⟩) ?_;simp only[go_sem];refine yI (k:=bx _) (t:=160) rfl c8 ?_;exact⟨rfl,rfl,rfl⟩
end
section
open Go Go.Am Go.Asm
open Go.Src (PR eI aM takeN bj Ex)
attribute[local congr]ite_cc
section
variable{A:List Src.Tok}
def Sh{kd n}{t}(a:A[n]?=S t)(b:t.kind=kd):takeN A kd n=.ok t (n+1):=by grind[takeN]
def rD A(n fin kd:Nat)(hn:n<=1000000)(H:0<kd):iQ 75 [ae kd] A n fin (takeN A kd n) sU:=by
 intro B g ob hB hf ho;refine hdM B [125] Tryz.func75 rfl [.cell 4 165] ZN hf λO bc s0 w0=>?_;have l:=nlo hB;have E:∀y,upd ob (B+4) y 125=S (rdC A n fin):=λy=>by grind[upd]
 have s:∀x,upd g (B+4) x 125=g 125:=λx=>by grind[upd]
 simp only[go_sem];refine dO aa rfl (by simp only[go_sem];rw[<-s (nxC 166 (g (B+4)))];exact NL (E _)) ?_;rintro _ I K⟨rfl,rfl,rfl⟩;by_cases b:eI A n=kd;case neg=>
  have Q:¬(eI A n:Int)=(kd:Int):=a7;have q:takeN A kd n=.no n:=by unfold takeN;unfold eI at b;cases L:A[n]?with|none=>rfl;|some t=>grind
  simp only[go_sem,Q];refine cN (R:=λ_ _ _=>False) aa rfl (by simp only[go_sem];rw[<-s (nxC 166 (g (B+4)))];exact Cq (E _)) ?_ (λ_ _ _ h=>h.elim);rintro U V Y⟨rfl,rfl,rfl⟩;exact((InF.refl.newG a7 a7).put a7).pan (E _) q rfl
 have Q:(eI A n:Int)=(kd:Int):=a7;obtain⟨t,r⟩:∃t,A[n]?=S t:=by grind[eI]
 have e:t.kind=kd:=by unfold eI at b;rw[r]at b;exact b
 unfold rdC mQ at ho;simp only[go_sem,Q];refine si (B:=B) aP mixed aa [B+5] [([0],[0],[],F),([12],[0],[],F),([13],[0],[],F),([14],[0],[],F),([0],[0],[],F),([16],[0],[],F),([17],[0],[],F),([18],[0],[],F),([15,19],[0],[],F),([20],[0],[],F),([],[],[0],F),([5,21],[],[],T)] 1 rfl c9 rfl b9 ?_;simp only[go_sem];iterate 10 (refine aX (λ_ _ _ _ J=>by simp only[go_sem,ho,a7,uS r,l]at J|-;exact J) ?_)
 (refine dJ Z4 ?_);apply dQ;intro G u;simp only[go_sem];refine u _ ?_;clear u G;simp only[go_sem,ho,ah (k:=n) a7,l,nhi hB];refine⟨_,ai.refl _,?_⟩;simp only[go_sem];refine InF.ret (rs:=[sU t]) ?_ ?_ (Sh r e) ?_ rfl;.exact(((((InF.refl.newG a7 a7).newG a7 a7).put a7).put a7).put a7).rdr.put a7
 .simp only[go_sem,l,rdC,mQ]
 .exact⟨_,_,rfl,.agg rfl (λi c j=>by match i,j with|0,j=>cases j;exact⟨_,rfl,.d _⟩;|1,j=>cases j;exact⟨_,rfl,.d _⟩;|2,j=>cases j;exact⟨_,rfl,.d _⟩;|3,j=>cases j;exact⟨_,rfl,.d _⟩),rfl⟩
def di(l:List Str):List C:=l.map λs=>bW s
def Xo{B n fin j}{g}{ob} l(hB:200<=B)(hf:∀i,B<=i->ob i=N)(ho:ob 125=S (rdC A n fin))(hn:n+z l<=1000000)(U:j<B)(y:j≠125)(c:ob j=S (di l)):dS Tryz.prog 76 [aj 125 (g 125) 0,eS j (g j) 1 0 (z l)] g ob (OkR A fin (bj A l n) (λ_=>uv) g ob) (NoR A fin (bj A l n) g ob):=by
 refine hdM B [125] Tryz.func76 rfl [] ZN hf λO bc s0 w0=>?_;have V:=nlo hB;obtain⟨p,G⟩:∃p,bj A l n=p:=⟨_,rfl⟩;rw[G];simp only[go_sem];refine⟨by grind,?_⟩;refine aF (λm K=>∃k:Nat,m+k=z l/\K.f 0=aj 125 (g 125) 0/\K.f 6=eS j (g j) 1 0 (z l)/\K.f 7=ae (z l)/\K.f 8=ae k/\K.gen=g/\K.obj=upd ob 125 (S (rdC A (n+k) fin))/\bj A (l.drop k) (n+k)=p) (z l) ?_ ?_;.refine⟨0,rfl,?_⟩;simp only[go_sem];refine⟨?_,a7⟩;funext i;simp_all[upd]
 rintro m f Z av⟨k,hk,e,v,q,r,rfl,rfl,o⟩;simp only at e v q r;have E:upd ob 125 (S (rdC A (n+k) fin)) 125=S (rdC A (n+k) fin):=by simp[upd]
 have J:∀i,B<=i->upd ob 125 (S (rdC A (n+k) fin)) i=N:=λi hi=>by grind[upd]
 by_cases w:k<z l;case neg=>have Q:¬(k:Int)<(z l:Int):=a7;obtain rfl:k=z l:=a7;rw[y8 (l7 _)]at o;simp only[go_sem,q,r,Q];refine⟨_,ai.refl _,?_⟩;simp only[go_sem];exact InF.ret InF.refl.rdr E o.symm rfl rfl
 have Q:(k:Int)<(z l:Int):=a7;have bk:(0:Int)<=(k:Int):=a7;obtain⟨s,x⟩:=getq w;have d:(di l)[k]?=S (bW s):=by unfold di;rw[A4,x];rfl
 have t:upd ob 125 (S (rdC A (n+k) fin)) j=S (di l):=by simp only[upd];rw[l4 y];exact c
 have b:z (di l)=z l:=j6 _;have L:(k:Int).toNat=k:=a7;have hd:l.drop k=s::l.drop (k+1):=by rw[B8 w];rw[x9 w]at x;cases x;rfl
 rw[hd]at o;simp only[go_sem,e,v,q,r,Q,t,bk,d,L];refine dO aa rfl (by simp only[go_sem];exact Hc hB J E) ?_;rintro _ g2 bn⟨rfl,rfl,rfl⟩;by_cases u:aM A (n+k)=s;case neg=>rw[bj,l4 u]at o;simp only[go_sem,u,e];refine cN (R:=λ_ _ _=>False) aa rfl (by simp only[go_sem];exact Cq E) ?_ (λ_ _ _ h=>h.elim);rintro ch g' Y⟨rfl,rfl,rfl⟩;exact InF.refl.rdr.pan E o.symm rfl
 rw[bj,s5 u]at o;simp only[go_sem,u,e,rdC,mQ,ah (k:=n+k) a7,r,ah (k:=k) a7];refine ak (m-1) a7 ⟨k+1,a7,?_⟩;simp only[go_sem,e,v,q];refine⟨?_,o⟩;funext i;grind[upd]
def ki op:aR Tryz.prog 241 [ae op] (·=.agg [ag 6,ag op,.d (.int .u32 0),bW [],aw []]):=by refine hdR Tryz.func241 rfl [.cell 2 199] λg=>?_;simp only[go_sem];refine⟨_,uT [.int .i64 6,.int .i64 op,.int .u32 0,.str [],.nsl],rfl⟩
end
def Jf(s:Str):AV:=.tup [.agg [ag (Src.tt s).1,ag (Src.tt s).2.1,.d (.int .u32 0),bW [],aw []],ae ((Src.tt s).2.2:Nat)]
def gp{s:Str}{k op:Int}{n:Nat}(h:Src.tt s=(k,op,n)):Jf s=.tup [.agg [ag k,ag op,.d (.int .u32 0),bW [],aw []],ae (n:Nat)]:=by unfold Jf;rw[h]
def gq{s:St}{k op n:Int}{x:D}(I:jI x=.sl []):uD s [.agg [ag k,ag op,.d (.int .u32 0),bW [],.d x],ae n] (.tup [.agg [ag k,ag op,.d (.int .u32 0),bW [],aw []],ae n]):=by have h:=uT (s:=s) [.int .i64 k,.int .i64 op,.int .u32 0,.str [],x];simp only[s7,x7,I]at h;exact⟨_,⟨_,_,rfl,h,_,_,rfl,mn _,rfl⟩,rfl⟩
def Xq(s:Str):aR Tryz.prog 239 [sv s] (·=Jf s):=by
 refine hdR Tryz.func239 rfl [.cell 2 199,.tmp 3] λg=>?_;by_cases b:s=[124,124]
 .have a:Src.tt s=(9,0,1):=by subst b;rfl
  rw[gp a];simp only[go_sem,w9 b];exact⟨_,gq rfl,rfl⟩
 by_cases U:s=[38,38]
 .have a:Src.tt s=(8,0,2):=by subst U;rfl
  rw[gp a];simp only[go_sem,b,w9 U];exact⟨_,gq rfl,rfl⟩
 by_cases Z:s=[61,61]
 .have a:Src.tt s=(6,15,3):=by subst Z;rfl
  rw[gp a];simp only[go_sem,b,U,w9 Z];exact gI
 by_cases d:s=[60]
 .have a:Src.tt s=(6,14,4):=by subst d;rfl
  rw[gp a];simp only[go_sem,b,U,Z,w9 d];exact gI
 by_cases e:s=[124]
 .have a:Src.tt s=(6,10,5):=by subst e;rfl
  rw[gp a];simp only[go_sem,b,U,Z,d,w9 e];exact gI
 by_cases i:s=[94]
 .have a:Src.tt s=(6,11,5):=by subst i;rfl
  rw[gp a];simp only[go_sem,b,U,Z,d,e,w9 i];exact gI
 by_cases j:s=[38]
 .have a:Src.tt s=(6,9,6):=by subst j;rfl
  rw[gp a];simp only[go_sem,b,U,Z,d,e,i,w9 j];exact gI
 by_cases k:s=[60,60]
 .have a:Src.tt s=(6,12,7):=by subst k;rfl
  rw[gp a];simp only[go_sem,b,U,Z,d,e,i,j,w9 k];exact gI
 by_cases l:s=[62,62]
 .have a:Src.tt s=(6,13,7):=by subst l;rfl
  rw[gp a];simp only[go_sem,b,U,Z,d,e,i,j,k,w9 l];exact gI
 by_cases m:s=[43]
 .have a:Src.tt s=(6,4,8):=by subst m;rfl
  rw[gp a];simp only[go_sem,b,U,Z,d,e,i,j,k,l,w9 m];exact gI
 by_cases w:s=[45]
 .have a:Src.tt s=(6,5,8):=by subst w;rfl
  rw[gp a];simp only[go_sem,b,U,Z,d,e,i,j,k,l,m,w9 w];exact gI
 by_cases H:s=[42]
 .have a:Src.tt s=(6,6,9):=by subst H;rfl
  rw[gp a];simp only[go_sem,b,U,Z,d,e,i,j,k,l,m,w,w9 H];exact gI
 by_cases q:s=[47]
 .have a:Src.tt s=(6,7,9):=by subst q;rfl
  rw[gp a];simp only[go_sem,b,U,Z,d,e,i,j,k,l,m,w,H,w9 q];exact gI
 by_cases o:s=[37]
 .have a:Src.tt s=(6,8,9):=by subst o;rfl
  rw[gp a];simp only[go_sem,b,U,Z,d,e,i,j,k,l,m,w,H,q,w9 o];exact gI
 have a:Src.tt s=(0,0,0):=by unfold Src.tt;simp only[b,U,Z,d,e,i,j,k,l,m,w,H,q,o,B1]
 rw[gp a];simp only[go_sem,b,U,Z,d,e,i,j,k,l,m,w,H,q,o];exact⟨_,gq rfl,rfl⟩
end
section
open Go Go.Am Go.Asm
open Go.Src (PR eI aM takeN bj Ex Stm dW jx fA iF jy)
variable{H:Type}{B:Nat}{g:Nat->Nat}
section
variable{O:Bs}{rd:Option Nat}{q:St->Am.Loc->List Deferred->World->Prop}{t:Nat}{v:il}{o:Oper}{s:St}{K:St->Prop}{k:Box K}{args:Array Operand}{tys:Array TypeId}
def Bi A n fin(a6:bA O q)(ho:o.op=.call ⟨.value (.func 119),args,tys⟩)(I:args.toList.map s.ev=[aj 125 (s.gen 125) 0])(bk:s.obj 125=S (rdC A n fin))(a:K (s.put o.dst (ae (eI A n)))):bE (spF Tryz.prog rd O q t v) o s k:=by refine dO a6 ho (by rw[I];exact NL bk) ?_;simp_all
def KQ A n fin(a6:bA O q)(ho:o.op=.call ⟨.value (.func 118),args,tys⟩)(I:args.toList.map s.ev=[aj 125 (s.gen 125) 0]) b(hB:200<=b)(bl:∀i,b<=i->s.obj i=N)(bk:s.obj 125=S (rdC A n fin))(a:K (s.put o.dst (sv (aM A n)))):bE (spF Tryz.prog rd O q t v) o s k:=by refine dO a6 ho (by rw[I];exact Hc hB bl bk) ?_;simp_all
def dw A n fin(str:Str)(a6:bA O q)(ho:o.op=.call ⟨.value (.func 73),args,tys⟩)(I:args.toList.map s.ev=[aj 125 (s.gen 125) 0,sv str]) b(hB:200<=b)(bl:∀i,b<=i->s.obj i=N)(bk:s.obj 125=S (rdC A n fin))(a:n<=1000000)(c:aM A n=str->K (St.put ⟨s.f,s.gen,upd s.obj 125 (S (rdC A (n+1) fin))⟩ o.dst (bv T)))(d:aM A n≠str->K (s.put o.dst (bv F))):bE (spF Tryz.prog rd O q t v) o s k:=by
 refine dO a6 ho (by rw[I];exact acb hB bl bk a str) ?_;rintro _ e j⟨rfl,⟨h,rfl,rfl⟩|⟨h,rfl,rfl⟩⟩;.exact c h
 .exact d h
def cV A n fin(a6:bA O q)(ho:o.op=.call ⟨.value (.func 76),args,tys⟩) l j(I:args.toList.map s.ev=[aj 125 (s.gen 125) 0,eS j (s.gen j) 1 0 (z l)]) b(hB:200<=b)(bl:∀i,b<=i->s.obj i=N)(bk:s.obj 125=S (rdC A n fin))(p:n+z l<=1000000)(v:j<b)(y:j≠125)(c:s.obj j=S (di l)){ob}{d:PR H}(E:InF B g ob s.gen s.obj)(u:∀m,bj A l n=.no m->d=.no m)(G:∀m,bj A l n=.ok () m->K (St.put ⟨s.f,s.gen,upd s.obj 125 (S (rdC A m fin))⟩ o.dst uv)):bE (spF Tryz.prog rd O q t (Mp B [125] g ob (NoR A fin d g ob))) o s k:=by
 refine cN a6 ho (by rw[I];exact Xo l hB bl bk p v y c) ?_ ?_;.rintro J w Y⟨rfl,m,e,x,rfl⟩;exact E.rdr.pan c8 (u m e) x
 .rintro r w Y⟨rfl,a,m,e,rfl,rfl⟩;grind
def KR A n fin(a6:bA O q)(ho:o.op=.call ⟨.value (.func 72),args,tys⟩)(I:args.toList.map s.ev=[aj 125 (s.gen 125) 0])(bk:s.obj 125=S (rdC A n fin)){ob}{d:PR H}(E:InF B g ob s.gen s.obj)(u:d=.no n):bE (spF Tryz.prog rd O q t (Mp B [125] g ob (NoR A fin d g ob))) o s k:=by refine cN (R:=λ_ _ _=>False) a6 ho (by rw[I];exact Cq bk) ?_ (λ_ _ _ h=>h.elim);rintro a b Y⟨rfl,rfl,rfl⟩;exact E.pan bk u rfl
end
instance:Inhabited Ex:=⟨.mk 0 0 0 [] []⟩
def look[Inhabited H](p:PR H):∃a m,(∃W m',p=.ok W m')->p=.ok a m:=by cases p with|ok a m=>simp;|no m=>simp
def VL(p:PR H){G:H->Prop} a0(b:G a0)(U:∀a m,p=.ok a m->G a):∃a m,G a/\((∃W m',p=.ok W m')->p=.ok a m):=by cases p with|ok a m=>simp_all;|no m=>grind
def SF s:(Src.tt s).2.2<=9:=by
 have h:∀(c:Prop)[Decidable c](x y:Int×Int×Nat),x.2.2<=9->y.2.2<=9->(if c then x else y).2.2<=9:=λc _ x y I a=>by grind
 unfold Src.tt;repeat (refine h _ _ _ (by decide) ?_)
 decide
def NY:(Src.tt []).2.2=0:=a8
mutual
def exD:Ex->List D
 |.mk kind op num name kids=>[.int .i64 kind,.int .i64 op,.int .u32 num,.str name,.sl (Hj kids)]
def Hj:List Ex->List (List D)
 |[]=>[]
 |e::l=>exD e::Hj l
end
def aL:∀l:List Ex,Hj l=l.map exD|[]=>by rfl;|e::l=>by simp[Hj,aL l]
def aY e:z (exD e)=5:=by cases e;rfl
def exV(e:Ex):AV:=.agg ((exD e).map .d)
def ea(l:List Ex):AV:=.one (aw (l.map exD))
def exC(l:List Ex):List C:=l.flatMap λa=>(exD a).map .d
def SG l:z (exC l)=z l*5:=by induction l with|nil=>rfl;|cons a l b=>simp only[exC,A8,j7,j6,aY,j8]at b|-;omega
def sB e:exC [e]=(exD e).map .d:=by simp[exC]
def SH l m:exC (l++m)=exC l++exC m:=by simp[exC]
def EA{s}{a b c d}{c5}{J}(h:jO (B<=·) s c5 J):fT B s [.agg [.d a,.d b,.d c,.d d,c5]] [.agg [.d a,.d b,.d c,.d d,.d J]]:=⟨_,_,rfl,.agg (xs:=[a,b,c,d,J]) rfl (λi e f=>by match i,f with|0,f=>cases f;exact⟨_,rfl,.d _⟩;|1,f=>cases f;exact⟨_,rfl,.d _⟩;|2,f=>cases f;exact⟨_,rfl,.d _⟩;|3,f=>cases f;exact⟨_,rfl,.d _⟩;|4,f=>grind),rfl⟩
def sC{B id g n}{s}{l}(b:B<=id)(hg:s.gen id=g)(ho:s.obj id=S (exC l))(c:z l=n):jO (B<=·) s (.osl id g 5 0 n) (.sl (Hj l)):=by rw[aL];exact iM b hg l exD ho rfl (λa _=>aY a) c
end
section
open Go Go.Am Go.Asm
open Go.Src (PR eI aM takeN bj Ex Stm dW jx fA iF jy)
attribute[local congr]ite_cc
structure ExK (A:List Src.Tok) (fin k:Nat):Prop where
 expr:∀(r n:Nat),1<=r->r<=100->n<=A.length->4*(A.length-n)+3<=k->iQ 224 [ae r] A n fin (dW A k r n) exV
 atom:∀(n:Nat),n<=A.length->4*(A.length-n)+2<=k->iQ 238 [] A n fin (fA A k n) exV
 args:∀(n:Nat),n<=A.length->4*(A.length-n)+4<=k->iQ 240 [] A n fin (iF A k n) ea
def Xs{A:List Src.Tok}{fin k n:Nat}(hl:z A<=100000)(x:ExK A fin k)(K:n<=z A)(L:4*(z A-n)+2<=k+1):iQ 238 [] A n fin (fA A (k+1) n) exV:=by
 intro B g ob hB hf ho;refine hdM B [125] Tryz.func238 rfl [.cell 2 199] ZN hf λO bc s0 w0=>?_;have n1:=nlo hB;have n2:=nhi hB;have E:InF B g ob g ob:=InF.refl;have az:=hf;obtain⟨p,hp⟩:∃p,fA A (k+1) n=p:=⟨_,rfl⟩;rw[hp];rw[fA]at hp;simp only[go_sem,n1,n2];refine Bi A n fin aa rfl Z0 aa2 ?_;by_cases Z:eI A n=2;.rw[s5 Z]at hp;have b:(eI A n:Int)=2:=a7;simp only[go_sem,b];refine aU aa rfl (rD A n fin 2 a7 a8) Z3 (B+57) a7 (fi az) aa2 (InF.go E) Z7 ?_;intro t m r;rw[r,PR.bind_ok]at hp;unfold sU qx;simp only[go_sem,n1,n2];refine⟨_,ai.refl _,?_⟩;simp only[go_sem,n1,n2];exact InF.ret (n:=m) (a:=.mk 1 0 t.num [] []) (InF.go E) Z0 hp.symm (EA .nil) c8
 rw[l4 Z]at hp;have b:¬(eI A n:Int)=2:=a7;simp only[go_sem,b];refine dw A n fin [103,101,116] aa rfl Z0 (B+57) a7 (fi az) aa2 a7 (λh=>?_) (λh=>?_);.rw[s5 h]at hp;have y:=Src.eE h b9;simp only[go_sem,n1,n2];refine cV A (n+1) fin aa rfl [[40],[41]] (B+17) Z3 (B+57) a7 (fi az) Z0 ZN a7 a7 Z9 (InF.go E) (λm h=>by rw[<-hp,show Src.dH=[40]from rfl,show Src.bP=[41]from rfl,h];rfl) ?_;intro m v;rw[show Src.dH=[40]from rfl,show Src.bP=[41]from rfl,v,PR.bind_ok]at hp;simp only[go_sem,n1,n2];refine⟨_,ai.refl _,?_⟩;simp only[go_sem,n1,n2];exact InF.ret (n:=m) (a:=.mk 5 0 0 [] []) (InF.go E) Z0 hp.symm (EA .nil) c8
 rw[l4 h]at hp;simp only[go_sem,n1,n2];refine dw A n fin [40] aa rfl Z0 (B+57) a7 (fi az) aa2 a7 (λh=>?_) (λh=>?_);.rw[s5 (show aM A n=Src.dH from h)]at hp;have y:=Src.eE h b9;simp only[go_sem,n1,n2];refine aU aa rfl (x.expr 1 (n+1) a7 a7 a7 a7) Z3 (B+57) a7 (fi az) c8 (InF.go E) Z7 ?_;intro e m j;rw[j,PR.bind_ok]at hp;have G:=Src.kf k 1 (n+1) e m j;obtain⟨H,u,en,I,q⟩:=e;simp only[go_sem,n1,n2,exV,exD];refine cV A m fin aa rfl [[41]] (B+26) Z3 (B+57) a7 (fi az) Z0 ZN a7 a7 Z9 (InF.go E) abp ?_;intro o v;rw[show Src.bP=[41]from rfl,v,PR.bind_ok]at hp;simp only[go_sem,n1,n2];refine⟨_,ai.refl _,?_⟩;simp only[go_sem,n1,n2];exact InF.ret (n:=o) (a:=.mk H u en I q) (InF.go E) Z0 hp.symm (EA (.d _)) c8
 rw[l4 (show¬aM A n=Src.dH from h)]at hp;simp only[go_sem,n1,n2];refine dw A n fin [33] aa rfl Z0 (B+57) a7 (fi az) aa2 a7 (λh=>?_) (λh=>?_);.rw[s5 h]at hp;have y:=Src.eE h b9;simp only[go_sem,n1,n2];refine aU aa rfl (x.atom (n+1) a7 a7) Z3 (B+57) a7 (fi az) c8 (InF.go E) Z7 ?_;intro e m j;rw[j,PR.bind_ok]at hp;simp only[go_sem,n1,n2,exV,aY,j6];refine⟨_,ai.refl _,?_⟩;simp only[go_sem,n1,n2];exact InF.ret (n:=m) (a:=.mk 7 0 0 [] [e]) (InF.go E) Z0 hp.symm (EA (sC (l:=[e]) a7 Z0 abX rfl)) c8
 rw[l4 h]at hp;simp only[go_sem,n1,n2];refine aU aa rfl (rD A n fin 1 a7 a8) Z3 (B+57) a7 (fi az) aa2 (InF.go E) Z7 ?_;intro t m r;rw[r,PR.bind_ok]at hp;have al:=Src.mE t m r;have Q:=Src.jF t m r;unfold sU qx;simp only[go_sem,n1,n2];refine dw A m fin [91] aa rfl Z0 (B+57) a7 (fi az) Z0 a7 (λh=>?_) (λh=>?_);.rw[s5 h]at hp;have y:=Src.eE h b9;simp only[go_sem,n1,n2];refine aU aa rfl (x.expr 1 (m+1) a7 a7 a7 a7) Z3 (B+57) a7 (fi az) Z0 (InF.go E) Z7 ?_;intro e o j;rw[j,PR.bind_ok]at hp;have G:=Src.kf k 1 (m+1) e o j;simp only[go_sem,n1,n2,exV,aY,j6];refine cV A o fin aa rfl [[93]] (B+48) Z3 (B+57) a7 (fi az) Z0 ZN a7 a7 Z9 (InF.go E) Z7 ?_;intro J v;rw[v,PR.bind_ok]at hp;simp only[go_sem,n1,n2];refine⟨_,ai.refl _,?_⟩;simp only[go_sem,n1,n2];exact InF.ret (n:=J) (a:=.mk 3 0 0 t.text [e]) (InF.go E) Z0 hp.symm (EA (sC (l:=[e]) a7 Z0 abX rfl)) c8
 rw[l4 h]at hp;simp only[go_sem,n1,n2];refine dw A m fin [40] aa rfl Z0 (B+57) a7 (fi az) Z0 a7 (λh=>?_) (λh=>?_);.rw[s5 (show aM A m=Src.dH from h)]at hp;have y:=Src.eE h b9;simp only[go_sem,n1,n2];refine aU aa rfl (x.args (m+1) a7 a7) Z3 (B+57) a7 (fi az) Z0 (InF.go E) Z7 ?_;intro l o j;rw[j,PR.bind_ok]at hp;simp only[go_sem,n1,n2,ea];refine⟨_,ai.refl _,?_⟩;simp only[go_sem,n1,n2];exact InF.ret (n:=o) (a:=.mk 4 0 0 t.text l) (InF.go E) Z0 hp.symm (EA (.d _)) (by simp[pack,exV,exD,aL])
 rw[l4 (show¬aM A m=Src.dH from h)]at hp;simp only[go_sem,n1,n2];refine⟨_,ai.refl _,?_⟩;simp only[go_sem,n1,n2];exact InF.ret (n:=m) (a:=.mk 2 0 0 t.text []) (InF.go E) Z0 hp.symm (EA .nil) c8
def Jj{B id g n:Nat}{s:St}{l:List Ex}(a:B<=id)(hg:s.gen id=g)(ho:s.obj id=S (exC l))(b:z l=n):fT B s [eS id g 5 0 n] [ea l]:=⟨_,_,rfl,.one (by have:=sC (B:=B) a hg ho b;rwa [aL]at this),rfl⟩
def Xt{A:List Src.Tok}{fin k n:Nat}(hl:z A<=100000)(o:∀j,j<=k->ExK A fin j)(x:n<=z A)(y:4*(z A-n)+4<=k+1):iQ 240 [] A n fin (iF A (k+1) n) ea:=by
 intro B g ob hB hf ho;refine hdM B [125] Tryz.func240 rfl [.tmp 2] ZN hf λO bc s0 w0=>?_;have n1:=nlo hB;have n2:=nhi hB;have E:InF B g ob g ob:=InF.refl;have az:=hf;obtain⟨p,hp⟩:∃p,iF A (k+1) n=p:=⟨_,rfl⟩;rw[hp];rw[iF]at hp;simp only[go_sem,n1,n2];refine dw A n fin [41] aa rfl c8 (B+20) a7 (fi az) a7 a7 (λh=>?_) (λh=>?_);.rw[s5 (show aM A n=Src.bP from h)]at hp;simp only[go_sem,n1,n2];refine⟨_,ai.refl _,?_⟩;simp only[go_sem,n1,n2];exact InF.ret (n:=n+1) (a:=[]) (rs:=[.one (aw [])]) (InF.go E) c8 hp.symm ⟨_,_,rfl,.one .nil,rfl⟩ rfl
 rw[l4 (show¬aM A n=Src.bP from h)]at hp;simp only[go_sem,n1,n2];refine aU aa rfl ((o k (l7 _)).expr 1 n a7 a7 a7 a7) c8 (B+20) a7 (fi az) a7 (InF.go E) Z7 ?_;intro e m d;rw[d,PR.bind_ok]at hp;have al:=Src.kf k 1 n e m d;have Q:=Src.iG k 1 n e m d;simp only[go_sem,n1,n2,exV,aY,j6];refine aF (λX K=>∃(j H:Nat)(q:List Ex),X+H=z A/\z q<=H/\4*(z A-H)+2<=j/\j<=k/\K.f 0=aj 125 (g 125) 0/\K.f 3=eS (B+8) (K.gen (B+8)) 5 0 (z q)/\K.obj (B+8)=S (exC q)/\K.obj 125=S (rdC A H fin)/\InF B g ob K.gen K.obj/\(∀i,B+20<=i->K.obj i=N)/\jy A j q H=p) (z A-m) ?_ ?_;.refine⟨k,m,[e],a7,by grind,a7,l7 _,?_⟩;simp only[go_sem,n1,n2,sB];exact⟨(InF.go E),(fi az),hp⟩
 clear az E hp d;rintro X f g1 av⟨j,H,q,G,I,J,t,q0,l,u,L,E,az,hp⟩;simp only at q0 l u L E az;obtain⟨j,rfl⟩:∃i,j=i+1:=⟨j-1,a7⟩;rw[jy]at hp;have hg:=E.rd;simp only[go_sem,q0];refine dw A H fin [44] aa rfl abj (B+20) a7 (fi az) a7 a7 (λh=>?_) (λh=>?_);.rw[s5 (show aM A H=Src.cZ from h)]at hp;have U:=Src.eE h b9;simp only[go_sem,n1,n2,q0,l];refine aU aa rfl ((o j a7).expr 1 (H+1) a7 a7 a7 a7) aa1 (B+20) a7 (fi az) c8 (InF.go E) Z7 ?_;intro e m d;rw[d,PR.bind_ok]at hp;have al:=Src.kf j 1 (H+1) e m d;have Q:=Src.iG j 1 (H+1) e m d;have r:=SG q;simp only[go_sem,n1,n2,exV,aY,j6,q0,l,u,r,bm];refine⟨a7,⟨a8,a7⟩,?_⟩;refine ak (z A-m) a7 ⟨j,m,q++[e],a7,by grind,a7,a7,?_⟩;simp only[go_sem,n1,n2,q0,l,j7];refine⟨?_,(InF.go E),(fi az),hp⟩;rw[s6 a7,SH,sB,s6 (by simp[aY])]
 .rw[l4 (show¬aM A H=Src.cZ from h)]at hp;simp only[go_sem,n1,n2,q0,l];refine cV A H fin aa rfl [[41]] (B+17) aa1 (B+20) a7 (fi az) adt ZN a7 a7 Z9 (InF.go E) abp ?_;intro m v;rw[show Src.bP=[41]from rfl,v,PR.bind_ok]at hp;simp only[go_sem,n1,n2,q0,l];refine⟨_,ai.refl _,?_⟩;simp only[go_sem,n1,n2,l];exact InF.ret (n:=m) (a:=q) (InF.go E) c8 hp.symm (Jj a7 Z0 (by simp only[go_sem,n1,n2,u]) rfl) rfl
variable{A:List Src.Tok}
def Xu{fin k r n:Nat}(hl:z A<=100000)(ih:∀j,j<=k->ExK A fin j)(bl:1<=r)(x:r<=100)(cy:n<=z A)(hk:4*(z A-n)+3<=k+1):iQ 224 [ae r] A n fin (dW A (k+1) r n) exV:=by
 intro B g ob hB hf ho;refine hdM B [125] Tryz.func224 rfl [.cell 4 199] ZN hf λO bc s0 w0=>?_;have n1:=nlo hB;have n2:=nhi hB;have E:InF B g ob g ob:=InF.refl;have az:=hf;obtain⟨p,hp⟩:∃p,dW A (k+1) r n=p:=⟨_,rfl⟩;rw[hp];rw[dW]at hp;simp only[go_sem];refine aU aa rfl ((ih k (l7 _)).atom n a7 a7) Z3 (B+35) a7 (fi az) aa2 (InF.go E) Z7 ?_;intro e m he;rw[he,PR.bind_ok]at hp;have al:=Src.FF k n e m he;have Q:=Src.BC k n e m he;obtain⟨ek,u,en,es,q⟩:=e;simp only[go_sem,exV,exD];refine aF (λX K=>∃(j H:Nat)(left:Ex),X+H=z A/\4*(z A-H)+2<=j/\j<=k/\K.f 0=aj 125 (g 125) 0/\K.f 1=ae r/\K.f 4=aj (B+4) (K.gen (B+4)) 0/\K.f 5=aj (B+5) (K.gen (B+5)) 0/\(∃a b c d e,K.obj (B+4)=S [a,b,c,d,e])/\K.obj (B+5)=S ((exD left).map .d)/\K.obj 125=S (rdC A H fin)/\InF B g ob K.gen K.obj/\(∀i,B+35<=i->K.obj i=N)/\jx A j r left H=p) (z A-m) ?_ ?_;.refine⟨k,m,.mk ek u en es q,a7,a7,l7 _,?_⟩;simp only[go_sem,n1,n2,exD];exact⟨⟨_,_,_,_,_,rfl,rfl,rfl,rfl,rfl⟩,(InF.go E),(fi az),hp⟩
 clear az E hp he;rintro X f g1 av⟨j,H,left,hz,hj,t,q0,q1,U,Y,⟨a,b,c,d,e,o4⟩,o5,L,E,az,hp⟩;simp only at q0 q1 U Y o4 o5 L E az;obtain⟨j,rfl⟩:∃i,j=i+1:=⟨j-1,a7⟩;rw[jx]at hp;have hg:=E.rd;obtain⟨w,lo,ln,V,s⟩:=left;simp only[exD,s7,x7]at o5;have ca:=SF (aM A H);simp only[go_sem,q0];refine KQ A H fin aa rfl abj (B+35) a7 (fi az) a7 ?_;simp only[go_sem];refine Kt rfl (by simp only[go_sem];exact Xq _) ?_;rintro _ rfl;unfold Jf;by_cases af:(Src.tt (aM A H)).2.2<r;.rw[s5 af]at hp;have an:((Src.tt (aM A H)).2.2:Int)<(r:Int):=a7;simp only[go_sem,q1,U,Y,an,o4,o5];refine⟨_,ai.refl _,?_⟩;simp only[go_sem,U];exact InF.ret (InF.go E) adt hp.symm (EA (.d _)) c8
 rw[l4 af]at hp;have an:¬((Src.tt (aM A H)).2.2:Int)<(r:Int):=a7;have bf:H<z A:=by refine Src.eE rfl λh=>?_;rw[h,NY]at af;omega
 have a1:=ah (k:=(Src.tt (aM A H)).2.2) a7;unfold rdC mQ at L;simp only[go_sem,q0,q1,an,hg,L,ah (k:=H) a7,n1];obtain⟨right,m',I⟩:=look (dW A j ((Src.tt (aM A H)).2.2+1) (H+1));refine nj (∃a m,dW A j ((Src.tt (aM A H)).2.2+1) (H+1)=.ok a m) aP mixed aa [B+32,125] [([5],[1],[],F),([0],[],[],F),([7],[],[],F),([29],[],[],F),([28,30],[],[1],F),([27,31],[],[0],F),([6],[0,1],[],F),([33,32],[],[],T)] 2 rfl c9 rfl ZN ?_;simp only[go_sem];(refine cO rfl gdD (λ_ _ _ _ J=>by simp only[go_sem,Y,o5,n2]at J|-;exact J) ?_);iterate 2 (refine cO rfl gdD (λ_ _ _ _ J=>by simp only[go_sem,q0]at J|-;exact J) ?_)
 (refine cO rfl gdD (λ_ _ _ _ J=>by simp only[go_sem,a1]at J|-;exact J) ?_);refine nk (v:=exV right) (y:=S (rdC A m' fin)) A6 b9 (λfa ga oa K' J=>?_) ?_;.simp only[go_sem]at J|-;refine aU aa rfl ((ih j a7).expr ((Src.tt (aM A H)).2.2+1) (H+1) a7 a7 a7 a7) aa9 (B+35) a7 (fi az) c8 (InF.go E) (λm h=>by rw[<-hp,h];rfl) ?_;intro a2 m2 Z;have e:=I ⟨_,_,Z⟩;rw[Z]at e;cases e;simp only[go_sem];grind
 (refine mf rfl gdD (λ_ _ _ _ J=>by simp only[go_sem,exV,aY,j6]at J|-;exact J) ?_);(refine cO rfl gdD abF ?_);refine np rfl A6 ?_;intro K' a';simp only[go_sem,n2];refine a' _ ?_;clear a' K';intro W;have e:=I W;rw[e,PR.bind_ok]at hp;have al:=Src.kf j ((Src.tt (aM A H)).2.2+1) (H+1) right m' e;have Q:=Src.iG j ((Src.tt (aM A H)).2.2+1) (H+1) right m' e;simp only[go_sem,n2,Y,o5];refine⟨z A-m',_,a7,LQ (id:=B+32) (o:=B+5) (cells:=[ag (Src.tt (aM A H)).1,ag (Src.tt (aM A H)).2.1,.d (.int .u32 0),bW [],.osl (B+32) (nxC (bm Tt 108+1) (g1 (B+32))) 5 0 2]) (cs:=[ag (Src.tt (aM A H)).1,ag (Src.tt (aM A H)).2.1,.d (.int .u32 0),bW [],aw [exD (.mk w lo ln V s),exD right]]) Z0 rfl ?_,?_⟩;.intro i c c' G l;match i,G,l with
 |0,G,l=>grind;|1,G,l=>grind;|2,G,l=>grind;|3,G,l=>grind;|4,G,l=>
  cases G;cases l;refine .inr ⟨_,iM (P:=(·=B+32)) rfl ?_ [.mk w lo ln V s,right] exD (cells:=exC [.mk w lo ln V s,right]) ?_ rfl (λa _=>aY a) rfl,rfl⟩;.simp only[go_sem]
  .simp only[go_sem];simp[exC,exD]
 refine⟨j,m',.mk (Src.tt (aM A H)).1 (Src.tt (aM A H)).2.1 0 [] [.mk w lo ln V s,right],a7,a7,a7,?_⟩;simp only[St.drop1];simp only[go_sem,n1,n2,q0,q1,U,exD,Hj];exact⟨Y,⟨_,_,_,_,_,o4⟩,(InF.go E),(fi az),hp⟩
def KS fin(hl:z A<=100000) k:ExK A fin k:=by induction k using Nat.strongRecOn with|ind k a=>cases k with|zero=>exact⟨λ_ _ _ _ _ h=>absurd h a7,λ_ _ h=>absurd h a7,λ_ _ h=>absurd h a7⟩;|succ k=>exact⟨λr n U Z b c=>Xu hl (λj d=>a j a7) U Z b c,λn U Z=>Xs hl (a k a7) U Z,λn U Z=>Xt hl (λj d=>a j a7) U Z⟩
end
section
open Go Go.Am Go.Asm
open Go.Src (PR eI aM takeN bj Ex Stm dW jx fA iF jy kZ jT fQ fj)
attribute[local congr]ite_cc
def nR(l:List Str):AV:=.one (aw (l.map λs=>[.str s]))
def wj(l:List Str):z (di l)=z l:=j6 _
def EB{B id g n:Nat}{s:St}{l:List Str}(b:B<=id)(hg:s.gen id=g)(ho:s.obj id=S (di l))(hn:z l=n):fT B s [eS id g 1 0 n] [nR l]:=⟨_,_,rfl,.one (iM b hg l (λs=>[.str s]) ho ac4 (λ_ _=>rfl) hn),rfl⟩
variable{A:List Src.Tok}{fin k n:Nat}
def Cw(hl:z A<=100000)(u:n<=z A)(v:z A-n+1<=k):iQ 74 [] A n fin (fQ A k n) nR:=by
 intro B g ob hB hf ho;refine hdM B [125] Tryz.func74 rfl [.tmp 2] ZN hf λO bc s0 w0=>?_;have n1:=nlo hB;have n2:=nhi hB;have E:InF B g ob g ob:=InF.refl;have az:=hf;obtain⟨p,d⟩:∃p,fQ A k n=p:=⟨_,rfl⟩;rw[d];rw[fQ]at d;simp only[go_sem,n1,n2];refine aU aa rfl (rD A n fin 1 a7 a8) c8 (B+17) a7 (fi az) a7 (InF.go E) Z7 ?_;intro t m e;rw[e,PR.bind_ok]at d;have al:=Src.mE t m e;have Q:=Src.jF t m e;unfold sU qx;simp only[go_sem,n1,n2];refine aF (λX K=>∃(j H:Nat)(q:List Str),X+H=z A/\z q<=H/\z A-H+1<=j/\K.f 0=aj 125 (g 125) 0/\K.f 3=eS (B+7) (K.gen (B+7)) 1 0 (z q)/\K.obj (B+7)=S (di q)/\K.obj 125=S (rdC A H fin)/\InF B g ob K.gen K.obj/\(∀i,B+17<=i->K.obj i=N)/\fj A j q H=p) (z A-m) ?_ ?_;.refine⟨k,m,[t.text],a7,by grind,a7,?_⟩;simp only[go_sem,n1,n2,di];exact⟨(InF.go E),(fi az),d⟩
 clear az E d;rintro X f g1 av⟨j,H,q,x,y,G,q0,l,o,L,E,az,d⟩;simp only at q0 l o L E az;obtain⟨j,rfl⟩:∃i,j=i+1:=⟨j-1,a7⟩;rw[fj]at d;have hg:=E.rd;simp only[go_sem,q0];refine dw A H fin [44] aa rfl abj (B+17) a7 (fi az) a7 a7 (λh=>?_) (λh=>?_);.rw[s5 (show aM A H=Src.cZ from h)]at d;have I:=Src.eE h b9;simp only[go_sem,n1,n2,q0,l];refine aU aa rfl (rD A (H+1) fin 1 a7 a8) aa1 (B+17) a7 (fi az) c8 (InF.go E) Z7 ?_;intro t m e;rw[e,PR.bind_ok]at d;have al:=Src.mE t m e;have Q:=Src.jF t m e;have r:=wj q;unfold sU qx;simp only[go_sem,n1,n2,q0,l,o,r,bm];refine⟨a7,⟨a8,a7⟩,?_⟩;refine ak (z A-m) a7 ⟨j,m,q++[t.text],a7,by grind,a7,?_⟩;simp only[go_sem,n1,n2,q0,l,j7];refine⟨?_,(InF.go E),(fi az),d⟩;rw[s6 a7];simp[di]
 .rw[l4 (show¬aM A H=Src.cZ from h)]at d;simp only[go_sem,n1,n2,q0,l];refine⟨_,ai.refl _,?_⟩;simp only[go_sem,n1,n2,l];exact InF.ret (n:=H) (a:=q) (InF.go E) a7 d.symm (EB a7 c8 a7 rfl) rfl
def Cx(hl:z A<=100000)(v:n<=z A)(x:4*(z A-n)+3<=k):iQ 223 [] A n fin (kZ A k n) ea:=by intro B g ob hB hf ho;refine hdM B [125] Tryz.func223 rfl [.tmp 2] ZN hf λO bc s0 w0=>?_;have n1:=nlo hB;have n2:=nhi hB;have E:InF B g ob g ob:=InF.refl;have az:=hf;obtain⟨p,hp⟩:∃p,kZ A k n=p:=⟨_,rfl⟩;rw[hp];rw[kZ]at hp;simp only[go_sem,n1,n2];refine cV A n fin aa rfl [[40]] (B+5) Z3 (B+14) a7 (fi az) aa2 ZN a7 a7 Z9 (InF.go E) adG ?_;intro m d;rw[show Src.dH=[40]from rfl,d,PR.bind_ok]at hp;have al:=Src.dR (A:=A) b9 () m d;have Q:=Src.dP () m d;simp only[go_sem,n1,n2];refine aU aa rfl ((KS fin hl k).expr 1 m a7 a7 a7 a7) Z3 (B+14) a7 (fi az) c8 (InF.go E) Z7 ?_;intro e j l;rw[l,PR.bind_ok]at hp;have P:=Src.kf k 1 m e j l;obtain⟨o,u,en,r,q⟩:=e;simp only[go_sem,n1,n2,exV,exD];refine cV A j fin aa rfl [[41]] (B+10) Z3 (B+14) a7 (fi az) Z0 ZN a7 a7 Z9 (InF.go E) abp ?_;intro t d;rw[show Src.bP=[41]from rfl,d,PR.bind_ok]at hp;simp only[go_sem,n1,n2];refine⟨_,ai.refl _,?_⟩;simp only[go_sem,n1,n2];exact InF.ret (n:=t) (a:=[.mk o u en r q]) (InF.go E) Z0 hp.symm (Jj a7 Z0 (by simp only[go_sem,n1,n2];rfl) rfl) rfl
end
open Go Go.Am Go.Asm
open Go.Src (PR eI aM takeN bj Ex Stm dW jx fA iF jy kZ jT fQ jl jL eC)
attribute[local congr]ite_cc
mutual
def smD:Stm->List D
 |.mk kind name e a el=>[.int .i64 kind,.str name,.sl (Hj e),.sl (Hk a),.sl (Hk el)]
def Hk:List Stm->List (List D)
 |[]=>[]
 |s::l=>smD s::Hk l
end
def dy:∀l:List Stm,Hk l=l.map smD|[]=>by rfl;|e::l=>by simp[Hk,dy l]
def kW(e:Stm):z (smD e)=5:=by cases e;rfl
def smV(e:Stm):AV:=.agg ((smD e).map .d)
def eU(l:List Stm):AV:=.one (aw (l.map smD))
def smC(l:List Stm):List C:=l.flatMap λa=>(smD a).map .d
def SI(l:List Stm):z (smC l)=z l*5:=by induction l with|nil=>rfl;|cons a l b=>simp only[smC,A8,j7,j6,kW,j8]at b|-;omega
def SJ(e:Stm):smC [e]=(smD e).map .d:=by simp[smC]
def SK(l m:List Stm):smC (l++m)=smC l++smC m:=by simp[smC]
def SL{B id g n:Nat}{s:St}{l:List Stm}(b:B<=id)(hg:s.gen id=g)(ho:s.obj id=S (smC l))(c:z l=n):fT B s [eS id g 5 0 n] [eU l]:=⟨_,_,rfl,.one (iM b hg l smD ho rfl (λa _=>kW a) c),rfl⟩
def tn{B:Nat}{s:St}{a b:D}{c3 c4 c5:C}{X f J:D}(g:jO (B<=·) s c3 X)(h:jO (B<=·) s c4 f)(j:jO (B<=·) s c5 J):fT B s [.agg [.d a,.d b,c3,c4,c5]] [.agg [.d a,.d b,.d X,.d f,.d J]]:=⟨_,_,rfl,.agg (xs:=[a,b,X,f,J]) rfl (λi e c=>by match i,c with|0,c=>cases c;exact⟨_,rfl,.d _⟩;|1,c=>cases c;exact⟨_,rfl,.d _⟩;|2,c=>grind;|3,c=>grind;|4,c=>grind),rfl⟩
def SM{A:List Src.Tok}{fin k n:Nat}(hl:z A<=100000)(cy:n<=z A)(hk:4*(z A-n)+3<=k):iQ 226 [] A n fin (jT A k n) smV:=by
 intro B g ob hB hf ho;refine hdM B [125] Tryz.func226 rfl [.cell 2 110] ZN hf λO bc s0 w0=>?_;have n1:=nlo hB;have n2:=nhi hB;have E:InF B g ob g ob:=InF.refl;have az:=hf;obtain⟨p,hp⟩:∃p,jT A k n=p:=⟨_,rfl⟩;rw[hp];rw[jT]at hp;simp only[go_sem,n1,n2];refine aU aa rfl (rD A n fin 1 a7 a8) Z3 (B+44) a7 (fi az) aa2 (InF.go E) Z7 ?_;intro t m G;rw[G,PR.bind_ok]at hp;have al:=Src.mE t m G;have Q:=Src.jF t m G;unfold sU qx;simp only[go_sem,n1,n2];refine dw A m fin [61] aa rfl Z0 (B+44) a7 (fi az) Z0 a7 (λh=>?_) (λh=>?_);.rw[s5 h]at hp;have L:=Src.eE h b9;simp only[go_sem,n1,n2];refine aU aa rfl ((KS fin hl k).expr 1 (m+1) a7 a7 a7 a7) Z3 (B+44) a7 (fi az) Z0 (InF.go E) Z7 ?_;intro e o r;rw[r,PR.bind_ok,PR.bind_ok]at hp;have P:=Src.kf k 1 (m+1) e o r;simp only[go_sem,n1,n2,exV,aY,j6];refine cV A o fin aa rfl [[59]] (B+41) Z3 (B+44) a7 (fi az) Z0 ZN a7 a7 Z9 (InF.go E) aa6 ?_;intro j x;rw[show Src.cq=[59]from rfl,x,PR.bind_ok]at hp;simp only[go_sem,n1,n2];refine⟨_,ai.refl _,?_⟩;simp only[go_sem,n1,n2];exact InF.ret (n:=j) (a:=.mk 1 t.text [e] [] []) (InF.go E) Z0 hp.symm (tn (sC (l:=[e]) a7 Z0 abX rfl) .nil .nil) c8
 rw[l4 h]at hp;simp only[go_sem,n1,n2];refine dw A m fin [91] aa rfl Z0 (B+44) a7 (fi az) Z0 a7 (λh=>?_) (λh=>?_)
 .rw[s5 h]at hp;have L:=Src.eE h b9;simp only[go_sem,n1,n2];refine aU aa rfl ((KS fin hl k).expr 1 (m+1) a7 a7 a7 a7) Z3 (B+44) a7 (fi az) c8 (InF.go E) Z7 ?_;intro e o r;rw[r,PR.bind_ok]at hp;have P:=Src.kf k 1 (m+1) e o r;have b:=Src.iG k 1 (m+1) e o r;obtain⟨U,u,en,V,q⟩:=e;simp only[go_sem,n1,n2,exV,exD];refine cV A o fin aa rfl [[93],[61]] (B+25) Z3 (B+44) a7 (fi az) Z0 ZN a7 a7 Z9 (InF.go E) Z7 ?_;intro j x;rw[x,PR.bind_ok]at hp;have ad:=Src.dR (A:=A) b9 () j x;have dz:=Src.dP () j x;simp only[go_sem,n1,n2];obtain⟨right,H,I⟩:=look (dW A k 1 j);refine nj (∃a m,dW A k 1 j=.ok a m) aP mixed aa [B+31,125] [([4],[1],[],F),([0],[],[],F),([29],[],[1],F),([28,30],[],[0],F),([3],[0,1],[],F),([32,31],[],[],T)] 2 rfl c9 rfl ZN ?_;simp only[go_sem];(refine cO rfl gdD abF ?_);(refine cO rfl gdD Z4 ?_);refine nk (v:=exV right) (y:=S (rdC A H fin)) A6 b9 (λfa ga oa K J=>?_) ?_;.simp only[go_sem,n1,n2]at J|-;refine aU (k:=bx K) aa rfl ((KS fin hl k).expr 1 j a7 a7 a7 a7) Z3 (B+44) a7 (fi az) Z0 (InF.go E) Z7 ?_;intro a2 q2 Z;have e:=I ⟨_,_,Z⟩;rw[Z]at e;cases e;simp only[go_sem,n1,n2];grind
  (refine mf rfl gdD (λ_ _ _ _ J=>by simp only[go_sem,exV,aY,j6,n1,n2]at J|-;exact J) ?_);(refine cO rfl gdD abF ?_);refine np rfl A6 ?_;intro K Y;simp only[go_sem,n1,n2];refine Y _ ?_;clear Y K;intro W;have e:=I W;rw[e,PR.bind_ok,PR.bind_ok]at hp;have bs:=Src.kf k 1 j right H e;simp only[go_sem,n1,n2];refine cV A H fin aa rfl [[59]] (B+41) Z3 (B+44) a7 (fi az) Z0 ZN a7 a7 Z9 (InF.go E) aa6 ?_;intro m4 x;rw[show Src.cq=[59]from rfl,x,PR.bind_ok]at hp;simp only[go_sem,n1,n2];refine⟨_,ai.refl _,?_⟩;simp only[go_sem,n1,n2];exact InF.ret (n:=m4) (a:=.mk 2 t.text [.mk U u en V q,right] [] []) (InF.go E) Z0 hp.symm (tn (sC (l:=[.mk U u en V q,right]) a7 Z0 (by simp only[go_sem,n1,n2];simp[exC,exD]) rfl) .nil .nil) c8
 rw[l4 h]at hp;simp only[go_sem,n1,n2];refine dw A m fin [40] aa rfl Z0 (B+44) a7 (fi az) Z0 a7 (λh=>?_) (λh=>?_);.rw[s5 (show aM A m=Src.dH from h)]at hp;have L:=Src.eE h b9;simp only[go_sem,n1,n2];refine aU aa rfl ((KS fin hl k).args (m+1) a7 a7) Z3 (B+44) a7 (fi az) Z0 (InF.go E) Z7 ?_;intro l o r;rw[r,PR.bind_ok,PR.bind_ok]at hp;have P:=Src.FG k (m+1) l o r;simp only[go_sem,n1,n2,ea];refine cV A o fin aa rfl [[59]] (B+41) Z3 (B+44) a7 (fi az) Z0 ZN a7 a7 Z9 (InF.go E) aa6 ?_;intro j x;rw[show Src.cq=[59]from rfl,x,PR.bind_ok]at hp;simp only[go_sem,n1,n2];refine⟨_,ai.refl _,?_⟩;simp only[go_sem,n1,n2];exact InF.ret (n:=j) (a:=.mk 6 t.text l [] []) (InF.go E) Z0 hp.symm (tn (.d _) .nil .nil) (by simp[pack,smV,smD,Hk,aL])
 rw[l4 (show¬aM A m=Src.dH from h)]at hp;simp only[go_sem,n1,n2];exact KR A m fin aa rfl Z0 Z0 (InF.go E) hp.symm
structure SmK (A:List Src.Tok) (fin k:Nat):Prop where
 stmt:∀(n:Nat),n<=A.length->4*(A.length-n)+4<=k->iQ 190 [] A n fin (jl A k n) smV
 body:∀(n:Nat),n<=A.length->4*(A.length-n)+6<=k->iQ 225 [] A n fin (jL A k n) eU
 stmts:∀(n:Nat),n<=A.length->4*(A.length-n)+5<=k->iQ 120 [] A n fin (eC A k [] n) eU
variable{A:List Src.Tok}{fin k n:Nat}
def Xg(hl:z A<=100000)(u:SmK A fin k)(L:n<=z A)(Q:4*(z A-n)+4<=k+1):iQ 190 [] A n fin (jl A (k+1) n) smV:=by
 intro B g ob hB hf ho;refine hdM B [125] Tryz.func190 rfl [.cell 2 110] ZN hf λO bc s0 w0=>?_;have n1:=nlo hB;have n2:=nhi hB;have E:InF B g ob g ob:=InF.refl;have az:=hf;obtain⟨p,hp⟩:∃p,jl A (k+1) n=p:=⟨_,rfl⟩;rw[hp];rw[jl]at hp;simp only[go_sem];refine dw A n fin [112,117,116] aa rfl Z0 (B+55) a7 (fi az) aa2 a7 (λh=>?_) (λh=>?_);.rw[s5 h]at hp;have t:=Src.eE h b9;simp only[go_sem];refine aU aa rfl (Cx hl (k:=k) (n:=n+1) a7 a7) Z3 (B+55) a7 (fi az) c8 (InF.go E) Z7 ?_;intro l m j;rw[j,PR.bind_ok]at hp;have P:=Src.wJ l m j;simp only[go_sem,ea];refine cV A m fin aa rfl [[59]] (B+13) Z3 (B+55) a7 (fi az) Z0 ZN a7 a7 Z9 (InF.go E) aa6 ?_;intro v x;rw[show Src.cq=[59]from rfl,x,PR.bind_ok]at hp;simp only[go_sem,n2];refine⟨_,ai.refl _,?_⟩;simp only[go_sem];exact InF.ret (InF.go E) Z0 hp.symm (tn (.d _) .nil .nil) (by simp[pack,smV,smD,Hk,aL])
 rw[l4 h]at hp;simp only[go_sem];refine dw A n fin [114,101,116,117,114,110] aa rfl Z0 (B+55) a7 (fi az) aa2 a7 (λh=>?_) (λh=>?_)
 .rw[s5 h]at hp;have t:=Src.eE h b9;simp only[go_sem];refine dw A (n+1) fin [59] aa rfl Z0 (B+55) a7 (fi az) Z0 a7 (λh=>?_) (λh=>?_);.rw[s5 (show aM A (n+1)=Src.cq from h)]at hp;simp only[go_sem,n2];refine⟨_,ai.refl _,?_⟩;simp only[go_sem];exact InF.ret (InF.go E) Z0 hp.symm (tn .nil .nil .nil) c8
  rw[l4 (show¬aM A (n+1)=Src.cq from h)]at hp;simp only[go_sem];refine aU aa rfl ((KS fin hl k).expr 1 (n+1) a7 a7 a7 a7) Z3 (B+55) a7 (fi az) Z0 (InF.go E) Z7 ?_;intro e o j;rw[j,PR.bind_ok]at hp;have P:=Src.kf k 1 (n+1) e o j;simp only[go_sem,n2,exV,aY,j6];refine cV A o fin aa rfl [[59]] (B+28) Z3 (B+55) a7 (fi az) Z0 ZN a7 a7 Z9 (InF.go E) aa6 ?_;intro v x;rw[show Src.cq=[59]from rfl,x,PR.bind_ok]at hp;simp only[go_sem,n2];refine⟨_,ai.refl _,?_⟩;simp only[go_sem];exact InF.ret (InF.go E) Z0 hp.symm (tn (sC (l:=[e]) a7 Z0 abX rfl) .nil .nil) c8
 rw[l4 h]at hp;simp only[go_sem];refine dw A n fin [105,102] aa rfl Z0 (B+55) a7 (fi az) aa2 a7 (λh=>?_) (λh=>?_)
 .rw[s5 h]at hp;have t:=Src.eE h b9;simp only[go_sem];refine aU aa rfl (Cx hl (k:=k) (n:=n+1) a7 a7) Z3 (B+55) a7 (fi az) c8 (InF.go E) Z7 ?_;intro l m j;rw[j,PR.bind_ok]at hp;have P:=Src.wJ l m j;have b:=Src.ui l m j;simp only[go_sem,ea];refine aU aa rfl (u.body m a7 a7) Z3 (B+55) a7 (fi az) c8 (InF.go E) Z7 ?_;intro r o j;rw[j,PR.bind_ok]at hp;have U:=Src.zT k m r o j;have c:=Src.wI k m r o j;simp only[go_sem,eU];refine dw A o fin [101,108,115,101] aa rfl Z0 (B+55) a7 (fi az) Z0 a7 (λh=>?_) (λh=>?_);.rw[s5 h]at hp;have t:=Src.eE h b9;simp only[go_sem];refine aU aa rfl (u.body (o+1) a7 a7) Z3 (B+55) a7 (fi az) c8 (InF.go E) Z7 ?_;intro el y j;rw[j,PR.bind_ok]at hp;simp only[go_sem,n2,eU];refine⟨_,ai.refl _,?_⟩;simp only[go_sem];exact InF.ret (InF.go E) Z0 hp.symm (tn (.d _) (.d _) (.d _)) adD
  rw[l4 h]at hp;simp only[go_sem,n2];refine⟨_,ai.refl _,?_⟩;simp only[go_sem];exact InF.ret (InF.go E) Z0 hp.symm (tn (.d _) (.d _) .nil) adD
 rw[l4 h]at hp;simp only[go_sem];refine dw A n fin [119,104,105,108,101] aa rfl Z0 (B+55) a7 (fi az) aa2 a7 (λh=>?_) (λh=>?_);.rw[s5 h]at hp;have t:=Src.eE h b9;simp only[go_sem];refine aU aa rfl (Cx hl (k:=k) (n:=n+1) a7 a7) Z3 (B+55) a7 (fi az) c8 (InF.go E) Z7 ?_;intro l m j;rw[j,PR.bind_ok]at hp;have P:=Src.wJ l m j;have b:=Src.ui l m j;simp only[go_sem,ea];refine aU aa rfl (u.body m a7 a7) Z3 (B+55) a7 (fi az) c8 (InF.go E) Z7 ?_;intro r o j;rw[j,PR.bind_ok]at hp;simp only[go_sem,n2,eU];refine⟨_,ai.refl _,?_⟩;simp only[go_sem];exact InF.ret (InF.go E) Z0 hp.symm (tn (.d _) (.d _) .nil) adD
 rw[l4 h]at hp;simp only[go_sem];refine aU aa rfl (SM hl (k:=k) a7 a7) Z3 (B+55) a7 (fi az) aa2 (InF.go E) (λm h=>by grind) ?_;intro e o j;rw[j]at hp;obtain⟨G,H,I,J,K⟩:=e;simp only[go_sem,n2,smV,smD];refine⟨_,ai.refl _,?_⟩;simp only[go_sem];exact InF.ret (InF.go E) Z0 hp.symm (tn (.d _) (.d _) (.d _)) c8
def Xh(hl:z A<=100000)(o:SmK A fin k)(u:n<=z A)(v:4*(z A-n)+6<=k+1):iQ 225 [] A n fin (jL A (k+1) n) eU:=by intro B g ob hB hf ho;refine hdM B [125] Tryz.func225 rfl [.tmp 2] ZN hf λO bc s0 w0=>?_;have n1:=nlo hB;have n2:=nhi hB;have E:InF B g ob g ob:=InF.refl;have az:=hf;obtain⟨p,e⟩:∃p,jL A (k+1) n=p:=⟨_,rfl⟩;rw[e];rw[jL]at e;simp only[go_sem];refine cV A n fin aa rfl [[123]] (B+4) Z3 (B+8) a7 (fi az) aa2 ZN a7 a7 Z9 (InF.go E) Z7 ?_;intro m j;rw[j,PR.bind_ok]at e;have al:=Src.dR b9 () m j;have Q:=Src.dP () m j;simp only[go_sem];refine aU aa rfl (o.stmts m a7 a7) Z3 (B+8) a7 (fi az) c8 (InF.go E) (λm h=>by grind) ?_;intro l r t;rw[t]at e;simp only[go_sem,eU];refine⟨_,ai.refl _,?_⟩;simp only[go_sem];exact InF.ret (InF.go E) c8 e.symm ⟨_,_,rfl,.one (.d _),rfl⟩ rfl
def Sb(hl:z A<=100000)(v:∀j,j<=k->SmK A fin j)(y:n<=z A)(G:4*(z A-n)+5<=k+1):iQ 120 [] A n fin (eC A (k+1) [] n) eU:=by
 intro B g ob hB hf ho;refine hdM B [125] Tryz.func120 rfl [.tmp 2] ZN hf λO bc s0 w0=>?_;have n1:=nlo hB;have n2:=nhi hB;obtain⟨p,o⟩:∃p,eC A (k+1) [] n=p:=⟨_,rfl⟩;rw[o];simp only[go_sem];refine aF (λX K=>∃(j H:Nat)(q:List Stm),X+H=z A/\z q<=H/\4*(z A-H)+5<=j/\j<=k+1/\K.f 0=aj 125 (g 125) 0/\((q=[]/\K.f 3=.one (.d .nsl))\/(K.f 3=eS (B+11) (K.gen (B+11)) 5 0 (z q)/\K.obj (B+11)=S (smC q)))/\K.obj 125=S (rdC A H fin)/\InF B g ob K.gen K.obj/\(∀i,B+13<=i->K.obj i=N)/\eC A j q H=p) (z A-n) ?_ ?_;.refine⟨k+1,n,[],a7,b9,a7,l7 _,?_⟩;simp only[go_sem];exact⟨.inl trivial,ho,InF.refl,λi hi=>hf i a7,o⟩
 clear o;rintro X f g1 av⟨j,H,q,I,J,U,t,q0,l,L,E,az,o⟩;simp only at q0 l L E az;obtain⟨j,rfl⟩:∃i,j=i+1:=⟨j-1,a7⟩;rw[eC]at o;have hg:=E.rd;simp only[go_sem,q0];refine dw A H fin [125] aa rfl abj (B+13) a7 (fi az) a7 a7 (λh=>?_) (λh=>?_)
 .rw[s5 h]at o;rcases l with⟨rfl,l⟩|⟨l,o3⟩;.simp only[go_sem,l];refine⟨_,ai.refl _,?_⟩;simp only[go_sem];exact InF.ret (InF.go E) c8 o.symm ⟨_,_,rfl,.one .nil,rfl⟩ rfl
  .simp only[go_sem,l];refine⟨_,ai.refl _,?_⟩;simp only[go_sem];exact InF.ret (InF.go E) c8 o.symm (SL a7 c8 (by simp only[go_sem,n2,o3]) rfl) rfl
 rw[l4 h]at o;have u:=(v j a7).stmt H a7 a7;rcases l with⟨rfl,l⟩|⟨l,o3⟩;.simp only[go_sem,q0,l];refine aU aa rfl u aa1 (B+13) a7 (fi az) a7 (InF.go E) Z7 ?_;intro e m r;rw[r,PR.bind_ok]at o;have al:=Src.PQ j H e m r;have Q:=Src.Lx j H e m r;simp only[go_sem,smV,kW,j6,bm];refine⟨⟨a8,a7⟩,?_⟩;refine ak (z A-m) a7 ⟨j,m,[]++[e],a7,by grind,a7,a7,?_⟩;simp only[go_sem,n1,q0];refine⟨.inr ?_,(InF.go E),(fi az),o⟩;simp_all[s6,kW,smC]
 .have x:=SI q;simp only[go_sem,q0,l];refine aU aa rfl u aa1 (B+13) a7 (fi az) a7 (InF.go E) Z7 ?_;intro e m r;rw[r,PR.bind_ok]at o;have al:=Src.PQ j H e m r;have Q:=Src.Lx j H e m r;simp only[go_sem,n2,smV,kW,j6,o3,x,bm];refine⟨a7,⟨a8,a7⟩,?_⟩;refine ak (z A-m) a7 ⟨j,m,q++[e],a7,by grind,a7,a7,?_⟩;simp only[go_sem,n1,q0,j7];refine⟨.inr ?_,(InF.go E),(fi az),o⟩;rw[s6 a7,SK,SJ,s6 (by simp[kW])]
def afo fin(hl:z A<=100000) k:SmK A fin k:=by induction k using Nat.strongRecOn with|ind k a=>cases k with|zero=>exact⟨λ_ _ h=>absurd h a7,λ_ _ h=>absurd h a7,λ_ _ h=>absurd h a7⟩;|succ k=>exact⟨λn U Z=>Xg hl (a k a7) U Z,λn U Z=>Xh hl (a k a7) U Z,λn U Z=>Sb hl (λj b=>a j a7) U Z⟩
end Go.Proofs.YtfdbpgoicedpcaaGreatDoor
namespace Go.Am
attribute[local congr]ite_cc
def mq{P:Program}{rd:Option Nat}{O:Bs}{a:St->Loc->List Deferred->World->Prop}{c:Nat}{e:il}{B:(Exit->St->Prop)->St->Prop}{b:Box B}{Q:Exit->St->Prop}{q:Box Q}{s:St}(d:St)(i:ai s d)(I:Nat->St->Prop)(n:Nat)(j:I n d)(V:∀n f g h,I n ⟨f,g,h⟩->B (nE (bx λk=>∃H d,H<n/\(spF P rd O a c e).vs k d/\I H d) q) ⟨f,g,h⟩):uy (spF P rd O a c e) b q s:=⟨I,⟨n,d,i,j⟩,λn s l=>V n s.f s.gen s.obj l⟩
end Go.Am
namespace Go.Proofs.YtfdbpgoicedpcaaGreatDoor
section
open Go Go.Am Go.Asm
open Go.Src (PR eI aM takeN bj Ex Stm fQ eC eD oX)
attribute[local congr]ite_cc
def fnD(f:Src.Fn):List D:=[.str f.name,.sl (f.p.map λs=>[.str s]),.sl (f.l.map λs=>[.str s]),.bool f.word,.sl (f.body.map smD)]
def Sc(f:Src.Fn):z (fnD f)=5:=rfl
def fnV(f:Src.Fn):AV:=.agg ((fnD f).map .d)
def IZ{P:Nat->Prop}{s:St}{id g n:Nat}{l:List Str}(b:P id)(hg:s.gen id=g)(ho:s.obj id=S (di l))(hn:z l=n):jO P s (.osl id g 1 0 n) (.sl (l.map λs=>[.str s])):=iM b hg l (λs=>[.str s]) ho ac4 (λ_ _=>rfl) hn
def Ja(l:List Str):((l.map λs=>([.str s]:List D)).flatten).map C.d=di l:=by unfold di;induction l with|nil=>rfl;|cons a l b=>grind
def VJ{A:List Src.Tok}{fin k n:Nat}(hl:z A<=100000)(cy:n<=z A)(hk:4*(z A-n)+5<=k):iQ 77 [] A n fin (oX A k n) fnV:=by
 intro B g ob hB hf ho;refine hdM B [125] Tryz.func77 rfl [.cell 2 67] ZN hf λO bc s0 w0=>?_;have n1:=nlo hB;have n2:=nhi hB;have E:InF B g ob g ob:=InF.refl;have az:=hf;obtain⟨p,hp⟩:∃p,oX A k n=p:=⟨_,rfl⟩;rw[hp];rw[oX]at hp;simp only[go_sem,n1,n2];refine cV A n fin aa rfl [[102,117,110,99]] (B+5) Z3 (B+44) a7 (fi az) aa2 ZN a7 a7 Z9 (InF.go E) Z7 ?_;intro m hm;rw[hm,PR.bind_ok]at hp;have al:=Src.dR (A:=A) b9 () m hm;have Q:=Src.dP () m hm;simp only[go_sem,n1,n2];refine aU aa rfl (rD A m fin 1 a7 a8) Z3 (B+44) a7 (fi az) c8 (InF.go E) Z7 ?_;intro t m3 ht;rw[ht,PR.bind_ok]at hp;have P:=Src.mE t m3 ht;have ad:=Src.jF t m3 ht;unfold sU qx;simp only[go_sem,n1,n2];refine cV A m3 fin aa rfl [[40]] (B+12) Z3 (B+44) a7 (fi az) Z0 ZN a7 a7 Z9 (InF.go E) adG ?_;intro m5 hm;rw[show Src.dH=[40]from rfl,hm,PR.bind_ok]at hp;have dz:=Src.dR (A:=A) b9 () m5 hm;have bs:=Src.dP () m5 hm;simp only[go_sem,n1,n2];refine Bi A m5 fin aa rfl Z0 c8 ?_;by_cases U:eI A m5=1;case' pos=>
  rw[s5 U]at hp;have r:(eI A m5:Int)=1:=a7;simp only[go_sem,r,n1,n2];refine aU aa rfl (Cw hl (k:=k) (n:=m5) a7 a7) Z3 (B+44) a7 (fi az) c8 (InF.go E) Z7 ?_;intro ps Y he;rw[he,PR.bind_ok]at hp;have b3:Y<=z A:=by have:=Src.wL ps Y he;omega
  have bf:m5<=Y:=by have:=Src.zS ps Y he;omega
  obtain⟨cx,a6,bk⟩:∃cx:C,(∀s:St,jO (B<=·) s cx (.sl (ps.map λs=>[.str s])))/\cx=aw (ps.map λs=>[D.str s]):=⟨_,λs=>.d _,rfl⟩;simp only[go_sem,n1,n2,nR];clear he r U
 case' neg=>
  have r:¬(eI A m5:Int)=1:=a7;simp only[go_sem,r,n1,n2];obtain⟨ps,bz⟩:∃ps:List Str,ps=[]:=⟨_,rfl⟩;obtain⟨Y,an⟩:∃Y,Y=m5:=⟨_,rfl⟩;have u:(PR.ok ([]:List Str) m5)=PR.ok ps Y:=by rw[bz,an]
  rw[l4 U,u,PR.bind_ok]at hp;obtain⟨cx,a6,bk⟩:∃cx:C,(∀s:St,jO (B<=·) s cx (.sl (ps.map λs=>[.str s])))/\cx=.d .nsl:=⟨_,λs=>by rw[bz];exact .nil,rfl⟩;clear r U u;have b3:Y<=z A:=a7;have bf:m5<=Y:=a7;rw[<-an];clear an bz
 all_goals
 refine cV A Y fin aa rfl [[41]] (B+21) Z3 (B+44) a7 (fi az) Z0 ZN a7 a7 Z9 (InF.go E) abp ?_;intro m8 hm;rw[show Src.bP=[41]from rfl,hm,PR.bind_ok]at hp;have b5:=Src.dR (A:=A) b9 () m8 hm;have b2:=Src.dP () m8 hm;simp only[go_sem,n1,n2];by_cases h:aM A m8=[119,111,114,100];case' pos=>have af:=Src.eE h b9;refine dw A m8 fin [119,111,114,100] aa rfl Z0 (B+44) a7 (fi az) c8 a7 (λ_=>?_) (λh'=>absurd h h');obtain⟨w,hw⟩:∃w,w=T:=⟨_,rfl⟩;obtain⟨m9,a1⟩:∃m9,m9=m8+1:=⟨_,rfl⟩;rw[s5 h,E4 h,<-hw,<-a1]at hp;rw[<-a1];simp only[go_sem,n1,n2]
 case' neg=>refine dw A m8 fin [119,111,114,100] aa rfl Z0 (B+44) a7 (fi az) c8 a7 (λh'=>absurd h' h) (λ_=>?_);obtain⟨w,hw⟩:∃w,w=F:=⟨_,rfl⟩;obtain⟨m9,a1⟩:∃m9,m9=m8:=⟨_,rfl⟩;rw[l4 h,G0 h,<-hw,<-a1]at hp;rw[<-a1];simp only[go_sem,n1,n2]
 all_goals
 clear h;have b6:m9<=z A:=a7;have b7:m8<=m9:=a7;refine cV A m9 fin aa rfl [[123]] (B+27) Z3 (B+44) a7 (fi az) Z0 ZN a7 a7 Z9 (InF.go E) Z7 ?_;intro ar hm;rw[hm,PR.bind_ok]at hp;have b4:=Src.dR (A:=A) b9 () ar hm;have b0:=Src.dP () ar hm;simp only[go_sem,n1,n2];refine mq _ (dX (t:=3) (o:=B+3) (b:=B+35) (j:=2) (sz:=1) (off:=0) (cells:=[bW t.text,cx,.d .nsl,bO w,.d .nsl]) Z0 (by simp only[go_sem,n1,n2,bk,hw]) rfl a7)
  (λX K=>∃(j H:Nat)(q:List Str),X+H=z A/\z q<=H/\z A-H+1<=j/\ar<=H/\K.f 0=aj 125 (g 125) 0/\K.f 2=aj (B+2) (K.gen (B+2)) 0/\K.f 3=aj (B+3) (K.gen (B+3)) 0/\(∃a b c d e,K.obj (B+2)=S [a,b,c,d,e])/\K.obj (B+3)=S [bW t.text,cx,.osl (B+35) (K.gen (B+35)) 1 0 (z q),bO w,.d .nsl]/\K.obj (B+35)=S (di q)/\K.obj 125=S (rdC A H fin)/\InF B g ob K.gen K.obj/\(∀i,B+44<=i->K.obj i=N)/\((eD A j q H).bind λV m=>(eC A k [] m).bind λb m=>Src.PR.ok {name:=t.text,p:=ps,l:=V,word:=w,body:=b} m)=p) (z A-ar) ?_ ?_;.simp only[St.claimAt];refine⟨k,ar,[],a7,b9,a7,l7 _,?_⟩;simp only[go_sem,n1,n2];exact⟨⟨_,_,_,_,_,rfl,rfl,rfl,rfl,rfl⟩,rfl,(InF.go E),(fi az),hp⟩
 clear az E hp;rintro X f g1 av⟨j,H,q,hz,b1,hj,cv,q0,q2,q3,⟨a,b,c,d,e,o2⟩,o3,bl,L,E,az,hp⟩;simp only at q0 q2 q3 o2 o3 bl L E az;obtain⟨j,rfl⟩:∃i,j=i+1:=⟨j-1,a7⟩;rw[eD]at hp;have hg:=E.rd;simp only[go_sem,q0];refine dw A H fin [118,97,114] aa rfl abj (B+44) a7 (fi az) a7 a7 (λh=>?_) (λh=>?_)
 .rw[s5 h]at hp;have af:=Src.eE h b9;have bo:=wj q;simp only[go_sem,n1,n2,q0];obtain⟨V,m',bn,I⟩:=VL (fQ A j (H+1)) (G:=λl=>z l<=100000) [] b9 adH;refine nj (∃a m,fQ A j (H+1)=.ok a m) aP mixed aa [B+35,125] [([3],[1],[],F),([31],[1],[],F),([0],[],[],F),([33],[],[1],F),([32,34],[],[0],F),([3],[0,1],[],F),([36,35],[],[],T)] 2 rfl c9 rfl ZN ?_;simp only[go_sem];(refine cO rfl gdD Z8 ?_);(refine cO rfl gdD Z8 ?_);(refine cO rfl gdD abn ?_);refine nk (v:=nR V) (y:=S (rdC A m' fin)) A6 b9 (λfa ga oa K' J=>?_) ?_;.simp only[go_sem,n1,n2]at J|-;refine aU (k:=bx K') aa rfl (Cw hl (k:=j) (n:=H+1) a7 a7) aa9 (B+44) a7 (fi az) c8 (InF.go E) Z7 ?_;intro a2 q2 Z;have e:=I ⟨_,_,Z⟩;rw[Z]at e;cases e;simp only[go_sem,n1,n2];grind
  refine mf (a:=0) (v:=eS (B+35) (nxC (apC 9 (g1 (B+35)) 0) (g1 (B+35))) 1 0 (z q+z V)) (x:=nxC (apC 9 (g1 (B+35)) 0) (g1 (B+35))) (y:=S (di (q++V))) rfl A6 (λfa ga oa K' J=>?_) ?_
  .simp only[go_sem,n1,n2,nR,bl,bo,bm,j6]at J|-;have e1:List.take (z q) (di q)++List.map C.d (List.map (λs=>([D.str s]:List D)) V).flatten=di (q++V):=by rw[s6 a7,Ja];simp[di]
   rw[e1];exact⟨l7 _,λe he=>by grind,⟨a8,a7⟩,J⟩
  (refine cO rfl gdD Z8 ?_);refine np rfl A6 ?_;intro K' a';simp only[go_sem,n1,n2,o3];refine a' _ ?_;clear a' K';intro W;have e:=I W;rw[e,PR.bind_ok]at hp;have al:=Src.wL V m' e;have Q:=Src.zS V m' e;have P:=Src.HV e;simp only[go_sem,n1,n2,q0];refine cV A m' fin aa rfl [[59]] (B+38) aa9 (B+44) a7 (fi az) Z0 ZN a7 a7 Z9 (InF.go E) aa6 ?_;intro m4 hm;rw[show Src.cq=[59]from rfl,hm,PR.bind_ok]at hp;have ad:=Src.dR (A:=A) b9 () m4 hm;have dz:=Src.dP () m4 hm;simp only[go_sem,n1,n2];refine ak (z A-m4) a7 ⟨j,m4,q++V,a7,by grind,a7,a7,?_⟩;simp only[go_sem,n1,n2,q0,q2,q3,j7];exact⟨⟨_,_,_,_,_,o2⟩,(InF.go E),(fi az),hp⟩
 .rw[l4 h,PR.bind_ok]at hp;simp only[go_sem,n1,n2,q0];refine aU aa rfl ((afo fin hl k).stmts H a7 a7) aa1 (B+44) a7 (fi az) a7 (InF.go E) Z7 ?_;intro bd m4 he;rw[he,PR.bind_ok]at hp;simp only[go_sem,n1,n2,q2,q3,o2,o3,eU];refine⟨_,ai.refl _,?_⟩;simp only[go_sem,n1,n2,q2];refine InF.ret (n:=m4) (a:=⟨t.text,ps,q,w,bd⟩) (rs:=[.agg [bW t.text,aw (ps.map λs=>[.str s]),aw (q.map λs=>[.str s]),bO w,aw (bd.map smD)]]) (InF.go E) Z0 hp.symm ?_ rfl;exact⟨_,_,rfl,.agg (xs:=[.str t.text,.sl (ps.map λs=>[.str s]),.sl (q.map λs=>[.str s]),.bool w,.sl (bd.map smD)]) rfl (λi e he=>by match i,he with|0,he=>cases he;exact⟨_,rfl,.d _⟩;|1,he=>simp_all;|2,he=>cases he;exact⟨_,rfl,IZ a7 c8 (by simp only[go_sem,n1,n2,bl]) rfl⟩;|3,he=>cases he;exact⟨_,rfl,.d _⟩;|4,he=>cases he;exact⟨_,rfl,.d _⟩),rfl⟩
end
section
open Go Go.Am Go.Asm
open Go.Src (PR eI aM takeN bj Ex Stm fQ eC eD oX lf lD mR)
attribute[local congr]ite_cc
def arD(a:Str×Int):List D:=[.str a.1,.int .i64 a.2]
def Ev(l:List (Str×Int)):List C:=l.flatMap λa=>(arD a).map .d
def NM l:z (Ev l)=z l*2:=by induction l with|nil=>rfl;|cons a l b=>simp only[Ev,A8,j7,j6,arD,j8,l5]at b|-;omega
def fnC(l:List Src.Fn):List C:=l.flatMap λa=>(fnD a).map .d
def Sd l:z (fnC l)=z l*5:=by induction l with|nil=>rfl;|cons a l b=>simp only[fnC,A8,j7,j6,Sc,j8]at b|-;omega
def Jb f:fnC [f]=(fnD f).map .d:=c8
def Se l m:fnC (l++m)=fnC l++fnC m:=by simp[fnC]
def kG(p:Src.Prog):List D:=[.sl (p.v.map λs=>[.str s]),.sl (p.a.map arD),.sl (p.f.map fnD)]
def cK(p:Src.Prog):AV:=.agg ((kG p).map .d)
variable{P:Nat->Prop}{id g n:Nat}
def Xi{s}{l}(a:P id)(hg:s.gen id=g)(ho:s.obj id=S (Ev l))(b:z l=n):jO P s (.osl id g 2 0 n) (.sl (l.map arD)):=iM a hg l arD ho rfl (λ_ _=>rfl) b
def acd{s}{l}(a:P id)(hg:s.gen id=g)(ho:s.obj id=S (fnC l))(b:z l=n):jO P s (.osl id g 5 0 n) (.sl (l.map fnD)):=iM a hg l fnD ho rfl (λ_ _=>rfl) b
instance:Inhabited Src.Fn:=⟨⟨[],[],[],false,[]⟩⟩
def Xj{A}{fin k}(hl:z A<=100000)(a6:∀t∈A,t.num<=4294967295)(hk:4*z A+7<=k):iQ 43 [] A 0 fin (mR A k 0) cK:=by
 intro B g ob hB hf ho;refine hdM B [125] Tryz.func43 rfl [.cell 2 26] ZN hf λO bc s0 w0=>?_;have n1:=nlo hB;have n2:=nhi hB;have E:InF B g ob g ob:=InF.refl;have az:=hf;obtain⟨p,hp⟩:∃p,mR A k 0=p:=⟨_,rfl⟩;rw[hp];rw[mR]at hp;simp only[go_sem];refine mq _ (((dX (t:=3) (o:=B+3) (b:=B+12) (j:=0) (sz:=1) (off:=0) (cells:=[.d .nsl,.d .nsl,.d .nsl]) Z0 Z0 rfl a7).trans
  (dX (t:=3) (o:=B+3) (b:=B+32) (j:=1) (sz:=2) (off:=0) (cells:=[.osl (B+12) (g (B+12)+1) 1 0 0,.d .nsl,.d .nsl]) abx abx rfl a7)).trans
  (dX (t:=3) (o:=B+3) (b:=B+45) (j:=2) (sz:=5) (off:=0) (cells:=[.osl (B+12) (g (B+12)+1) 1 0 0,.osl (B+32) (g (B+32)+1) 2 0 0,.d .nsl]) abx abx rfl a7))
  (λX K=>∃(j H:Nat)(vs:List Str)(u:List (Str×Int)),X+H=z A/\z vs<=H/\z u<=H/\z A-H+1<=j/\K.f 0=aj 125 (g 125) 0/\K.f 2=aj (B+2) (K.gen (B+2)) 0/\K.f 3=aj (B+3) (K.gen (B+3)) 0/\(∃a b c,K.obj (B+2)=S [a,b,c])/\K.obj (B+3)=S [.osl (B+12) (K.gen (B+12)) 1 0 (z vs),.osl (B+32) (K.gen (B+32)) 2 0 (z u),.osl (B+45) (K.gen (B+45)) 5 0 0]/\K.obj (B+12)=S (di vs)/\K.obj (B+32)=S (Ev u)/\K.obj (B+45)=S []/\K.obj 125=S (rdC A H fin)/\InF B g ob K.gen K.obj/\(∀i,B+65<=i->K.obj i=N)/\((lf A j vs u H).bind λh n=>(oX A k n).bind λf n=>(lD A k [f] n).bind λfs n=>PR.ok (Src.Prog.mk h.1 h.2 fs) n)=p) (z A) ?_ ?_;.simp only[St.claimAt];refine⟨k,0,[],[],a7,b9,b9,a7,?_⟩;simp only[go_sem,n1];exact⟨⟨_,_,_,rfl,rfl,rfl⟩,rfl,rfl,ho,(InF.go E),(fi az),hp⟩
 clear az E hp;rintro X f g1 av⟨j,H,vs,u,hz,b0,bl,hj,q0,q2,q3,⟨a,b,c,o2⟩,o3,ar,r,w,L,E,az,hp⟩;simp only at q0 q2 q3 o2 o3 ar r w L E az;obtain⟨j,rfl⟩:∃i,j=i+1:=⟨j-1,a7⟩;rw[lf]at hp;have hg:=E.rd;have b2:=wj vs;have cf:=NM u;simp[go_sem,q0];refine dw A H fin [118,97,114] aa rfl abj (B+65) a7 (fi az) a7 a7 (λh=>?_) (λh=>?_)
 .rw[s5 h]at hp;have af:=Src.eE h b9;simp only[go_sem];obtain⟨V,m',bn,I⟩:=VL (fQ A j (H+1)) (G:=λl=>z l<=100000) [] b9 adH;refine nj (∃a m,fQ A j (H+1)=.ok a m) aP mixed aa [B+12,125] [([3],[1],[],F),([8],[1],[],F),([0],[],[],F),([10],[],[1],F),([9,11],[],[0],F),([3],[0,1],[],F),([13,12],[],[],T)] 2 rfl c9 rfl ZN ?_;simp[go_sem];(refine cO rfl gdD Z8 ?_);(refine cO rfl gdD Z8 ?_);(refine cO rfl gdD abn ?_);refine nk (v:=nR V) (y:=S (rdC A m' fin)) A6 b9 (λfa ga oa K' J=>?_) ?_;.simp only[go_sem]at J|-;refine aU aa rfl (Cw hl (k:=j) (n:=H+1) a7 a7) aa9 (B+65) a7 (fi az) c8 (InF.go E) Z7 ?_;intro a2 q2 Z;have e:=I ⟨_,_,Z⟩;rw[Z]at e;cases e;simp only[go_sem];grind
  refine mf (v:=eS (B+12) (nxC (apC 9 (g1 (B+12)) 0) (g1 (B+12))) 1 0 (z vs+z V)) (x:=nxC (apC 9 (g1 (B+12)) 0) (g1 (B+12))) (y:=S (di (vs++V))) rfl A6 (λfa ga oa K' J=>?_) ?_
  .simp only[go_sem,n2,nR,ar,b2,bm,j6]at J|-;have e1:List.take (z vs) (di vs)++List.map C.d (List.map (λs=>([D.str s]:List D)) V).flatten=di (vs++V):=by rw[s6 a7,Ja];simp[di]
   rw[e1];exact⟨l7 _,λe he=>by grind,⟨a8,a7⟩,J⟩
  (refine cO rfl gdD Z8 ?_);refine np rfl A6 ?_;intro K' a';simp only[go_sem,n2,o3];refine a' _ ?_;clear a' K';intro W;have e:=I W;rw[e,PR.bind_ok]at hp;have al:=Src.wL V m' e;have Q:=Src.zS V m' e;have P:=Src.HV e;simp only[go_sem,q0];refine cV A m' fin aa rfl [[59]] (B+38) aa9 (B+65) a7 (fi az) Z0 ZN a7 a7 Z9 (InF.go E) aa6 ?_;intro m4 hm;rw[show Src.cq=[59]from rfl,hm,PR.bind_ok]at hp;have ad:=Src.dR b9 () m4 hm;have dz:=Src.dP () m4 hm;simp only[go_sem];refine ak (z A-m4) a7 ⟨j,m4,vs++V,u,a7,by grind,a7,a7,?_⟩;simp only[go_sem,n2,q0,q2,q3,j7];exact⟨⟨_,_,_,o2⟩,r,w,(InF.go E),(fi az),hp⟩
 rw[l4 h]at hp;simp only[go_sem,q0];refine dw A H fin [97,114,114,97,121] aa rfl abj (B+65) a7 (fi az) a7 a7 (λh=>?_) (λh=>?_)
 .rw[s5 h]at hp;have af:=Src.eE h b9;simp only[go_sem,q0];refine aU aa rfl (rD A (H+1) fin 1 a7 a8) aa1 (B+65) a7 (fi az) c8 (InF.go E) Z7 ?_;intro t m3 ht;rw[ht,PR.bind_ok]at hp;have P:=Src.mE t m3 ht;have ad:=Src.jF t m3 ht;unfold sU qx;simp only[go_sem,q0];refine cV A m3 fin aa rfl [[91]] (B+20) aa1 (B+65) a7 (fi az) Z0 ZN a7 a7 Z9 (InF.go E) Z7 ?_;intro m5 hm;rw[hm,PR.bind_ok]at hp;have dz:=Src.dR b9 () m5 hm;have bs:=Src.dP () m5 hm;simp only[go_sem,q0];refine aU aa rfl (rD A m5 fin 2 a7 a8) aa1 (B+65) a7 (fi az) c8 (InF.go E) Z7 ?_;intro t2 Y bd;rw[bd,PR.bind_ok]at hp;have b3:=Src.mE t2 Y bd;have b5:=Src.jF t2 Y bd;have b7:IntKind.i64.wrap (t2.num:Int)=(t2.num:Int):=by
   have:t2∈A:=by
    unfold takeN at bd;split at bd;.grind
    .cases bd
   have:=a6 t2 this;rw[wrap_i64]<;>omega
  unfold sU qx;simp only[go_sem,n2,q0,b7,q3,o3,r,cf,bm];refine⟨a7,⟨a8,a7⟩,?_⟩;have e1:List.take (z u*2) (Ev u)++[C.d (D.str t.text),C.d (D.int IntKind.i64 ↑t2.num)]=Ev (u++[(t.text,(t2.num:Int))]):=by rw[s6 a7];simp[Ev,arD]
  rw[e1];refine cV A Y fin aa rfl [[93]] (B+35) aa1 (B+65) a7 (fi az) Z0 ZN a7 a7 Z9 (InF.go E) Z7 ?_;intro m9 hm;rw[hm,PR.bind_ok]at hp;have a1:=Src.dR b9 () m9 hm;have b4:=Src.dP () m9 hm;simp only[go_sem,q0];refine cV A m9 fin aa rfl [[59]] (B+38) aa1 (B+65) a7 (fi az) Z0 ZN a7 a7 Z9 (InF.go E) aa6 ?_;intro bk hm;rw[show Src.cq=[59]from rfl,hm,PR.bind_ok]at hp;have bo:=Src.dR b9 () bk hm;have bz:=Src.dP () bk hm;simp only[go_sem];refine ak (z A-bk) a7 ⟨j,bk,vs,u++[(t.text,(t2.num:Int))],a7,a7,by grind,a7,?_⟩;simp only[go_sem,n2,q0,q2,q3,j7];exact⟨⟨_,_,_,o2⟩,ar,w,(InF.go E),(fi az),hp⟩
 rw[l4 h,PR.bind_ok]at hp;simp only[go_sem];obtain⟨f0,m0,I⟩:=look (oX A k H);refine nj (∃a m,oX A k H=.ok a m) aP mixed aa [B+44,B+45,125] [([3],[0,2],[],F),([40],[0,2],[],F),([0],[],[],F),([42],[],[2],F),([43],[],[0],F),([41,44],[],[1],F),([3],[0,1,2],[],F),([46,45],[],[],T)] 3 rfl c9 rfl ZN ?_;simp[go_sem];(refine cO rfl gdD Z8 ?_);(refine cO rfl gdD Z8 ?_);(refine cO rfl gdD abn ?_);refine nk (v:=fnV f0) (y:=S (rdC A m0 fin)) A6 b9 (λfa ga oa K' J=>?_) ?_;.simp only[go_sem]at J|-;refine aU aa rfl (VJ hl (k:=k) (n:=H) a7 a7) aa9 (B+65) a7 (fi az) a7 (InF.go E) Z7 ?_;intro a2 q2 Z;have e:=I ⟨_,_,Z⟩;rw[Z]at e;cases e;simp only[go_sem];grind
 (refine mf rfl gdD adf ?_);refine mf (v:=eS (B+45) (nxC (apC 67 (g1 (B+45)) 0) (g1 (B+45))) 5 0 1) (x:=nxC (apC 67 (g1 (B+45)) 0) (g1 (B+45))) (y:=S (fnC [f0])) rfl A6 (λfa ga oa K' J=>?_) ?_;.simp only[go_sem,n2,w,bm,Jb,fnD]at J|-;exact⟨⟨a8,a7⟩,J⟩
 (refine cO rfl gdD Z8 ?_);refine np rfl A6 ?_;intro K' a';simp only[go_sem,n2,o3];refine a' _ ?_;clear a' K';intro W;have e:=I W;rw[e,PR.bind_ok]at hp;have al:=Src.JF f0 m0 e;have Q:=Src.acQ f0 m0 e;simp only[go_sem];refine aF (λX K=>∃(j q:Nat)(fs:List Src.Fn),X+q=z A/\z fs<=q/\4*(z A-q)+6<=j/\K.f 0=aj 125 (g 125) 0/\K.f 2=aj (B+2) (K.gen (B+2)) 0/\K.f 3=aj (B+3) (K.gen (B+3)) 0/\(∃a b c,K.obj (B+2)=S [a,b,c])/\K.obj (B+3)=S [.osl (B+12) (K.gen (B+12)) 1 0 (z vs),.osl (B+32) (K.gen (B+32)) 2 0 (z u),.osl (B+45) (K.gen (B+45)) 5 0 (z fs)]/\K.obj (B+12)=S (di vs)/\K.obj (B+32)=S (Ev u)/\K.obj (B+45)=S (fnC fs)/\K.obj 125=S (rdC A q fin)/\InF B g ob K.gen K.obj/\(∀i,B+65<=i->K.obj i=N)/\((lD A j fs q).bind λfs n=>PR.ok (Src.Prog.mk vs u fs) n)=p) (z A-m0) ?_ ?_;.refine⟨k,m0,[f0],a7,by grind,a7,?_⟩;simp[go_sem,n1,n2,q0,q2,q3];exact⟨⟨_,_,_,o2⟩,ar,r,(InF.go E),(fi az),hp⟩
 clear az E hp q0 q2 q3 o2 o3 ar r w L I W e hg;rintro X f g1 av⟨j,q,fs,hz,bf,hj,q0,q2,q3,⟨a,b,c,o2⟩,o3,ar,r,w,L,E,az,hp⟩;simp only at q0 q2 q3 o2 o3 ar r w L E az;obtain⟨j,rfl⟩:∃i,j=i+1:=⟨j-1,a7⟩;rw[lD]at hp;have hg:=E.rd;have U:=L;unfold rdC mQ at U;have ch:=Sd fs;simp[go_sem];refine aZ c9 ?_;by_cases af:q<z A;case neg=>rw[l4 af,PR.bind_ok]at hp;have an:¬(q:Int)<(z A:Int):=a7;simp only[go_sem,hg,q0,U,an,j6,q2,q3,o2,o3];refine⟨_,ai.refl _,?_⟩;simp only[go_sem,q2];refine InF.ret (rs:=[.agg [aw (vs.map λs=>[.str s]),aw (u.map arD),aw (fs.map fnD)]]) (InF.go E) adt hp.symm ?_ rfl;exact⟨_,_,rfl,.agg (xs:=[.sl (vs.map λs=>[.str s]),.sl (u.map arD),.sl (fs.map fnD)]) rfl (λi e he=>by match i,he with|0,he=>cases he;exact⟨_,rfl,IZ a7 c8 (by simp only[go_sem,ar]) rfl⟩;|1,he=>cases he;exact⟨_,rfl,Xi a7 c8 (by simp only[go_sem,r]) rfl⟩;|2,he=>cases he;exact⟨_,rfl,acd a7 c8 (by simp only[go_sem,w]) rfl⟩),rfl⟩
 rw[s5 af]at hp;have an:(q:Int)<(z A:Int):=a7;simp only[go_sem,hg,q0,U,an,j6];obtain⟨f1,m1,I⟩:=look (oX A j q);refine nj (∃a m,oX A j q=.ok a m) aP mixed aa [B+61,B+45,125] [([3],[0,2],[],F),([57],[0,2],[],F),([0],[],[],F),([59],[],[2],F),([60],[],[0],F),([58,61],[],[1],F),([3],[0,1,2],[],F),([63,62],[],[],T)] 3 rfl c9 rfl ZN ?_;simp[go_sem];(refine cO rfl gdD Z8 ?_);(refine cO rfl gdD Z8 ?_);(refine cO rfl gdD abn ?_);refine nk (v:=fnV f1) (y:=S (rdC A m1 fin)) A6 b9 (λfa ga oa K' J=>?_) ?_;.simp only[go_sem]at J|-;refine aU aa rfl (VJ hl (k:=j) (n:=q) a7 a7) aa9 (B+65) a7 (fi az) a7 (InF.go E) Z7 ?_;intro a2 q2 Z;have e:=I ⟨_,_,Z⟩;rw[Z]at e;cases e;simp only[go_sem];grind
 (refine mf rfl gdD adf ?_);refine mf (v:=eS (B+45) (nxC (apC 67 (g1 (B+45)) 0) (g1 (B+45))) 5 0 (z fs+1)) (x:=nxC (apC 67 (g1 (B+45)) 0) (g1 (B+45))) (y:=S (fnC (fs++[f1]))) rfl A6 (λfa ga oa K' J=>?_) ?_
 .simp only[go_sem,n2,w,bm,ch]at J|-;have e1:List.take (z fs*5) (fnC fs)++(fnD f1).map C.d=fnC (fs++[f1]):=by rw[s6 a7,Se,Jb]
  simp[fnD]at e1;exact V0
 (refine cO rfl gdD Z8 ?_);refine np rfl A6 ?_;intro K' a';simp only[go_sem,n2,o3];refine a' _ ?_;clear a' K';intro W;have e:=I W;rw[e,PR.bind_ok]at hp;have P:=Src.JF f1 m1 e;have ad:=Src.acQ f1 m1 e;simp only[go_sem];refine ak (z A-m1) a7 ⟨j,m1,fs++[f1],a7,by grind,a7,?_⟩;simp[go_sem,n1,n2,q0,q2,q3];exact⟨⟨_,_,_,o2⟩,ar,r,(InF.go E),(fi az),hp⟩
end
section
open Go Go.Am Go.Asm
open Go.Src (ba)
attribute[local congr]ite_cc
variable{o:cM}
def Xk(ho:mL o)(s:Str):cn Tryz.prog 4 o 121 [sv s] (·=bv (ba s)):=by
 refine hdG Tryz.func121 rfl [.tmp 2] λO bc s0 w0 g=>?_;obtain⟨X,a⟩:∃X,ba s=X:=⟨_,rfl⟩;rw[a];unfold ba at a;by_cases l:s=[]
 .obtain rfl:X=F:=by grind
  simp only[go_sem,w9 l]
 by_cases i:z s<=20;case neg=>
  obtain rfl:X=F:=by grind
  have an:¬(z s:Int)<=20:=a7;simp only[go_sem,l,an]
 have an:(z s:Int)<=20:=a7;obtain⟨c,d⟩:∃c,s[0]?=S c:=by cases s with|nil=>grind;|cons c r=>simp
 have b:s.head?=S c:=by rw[<-d,UM]
 simp only[go_sem,l,an,d];refine kr rfl (by simp only[go_sem];exact sJ c) ?_;rintro _ rfl;cases a1:letter c;.exact q9
 simp only[go_sem];refine kr rfl (by simp only[go_sem];exact xY (λc=>Bu c) s a7) ?_;rintro _ rfl;by_cases ar:s.takeWhile eK=s;case neg=>
  obtain rfl:X=F:=by grind
  simp only[go_sem,ar]
 simp only[go_sem,ar];refine dm rfl (by simp only[go_sem];exact Fj ho s) ?_;rintro _ rfl;by_cases e:s∈Src.jw
 .obtain rfl:X=F:=by grind
  simp only[go_sem,e]
 .obtain rfl:X=T:=by grind
  simp only[go_sem,e]
def qh(ho:mL o)(s:Str):cn Tryz.prog 4 o 79 [sv s] (·=bv (ba s)):=by
 refine hdG Tryz.func79 rfl [.tmp 2] λO bc s0 w0 g=>?_;have u:s∈Src.jw->ba s=F:=λh=>G0 λq=>q.2.2.2.2 h;obtain⟨X,n⟩:∃X,ba s=X:=⟨_,rfl⟩;rw[n];rw[n]at u;by_cases a:s=[118,97,114];.obtain rfl:=u (by rw[a];decide);simp only[go_sem,w9 a]
 by_cases U:s=[97,114,114,97,121];.obtain rfl:=u (by rw[U];decide);simp only[go_sem,a,w9 U]
 by_cases Z:s=[102,117,110,99];.obtain rfl:=u (by rw[Z];decide);simp only[go_sem,a,U,w9 Z]
 by_cases b:s=[119,111,114,100];.obtain rfl:=u (by rw[b];decide);simp only[go_sem,a,U,Z,w9 b]
 by_cases d:s=[105,102];.obtain rfl:=u (by rw[d];decide);simp only[go_sem,a,U,Z,b,w9 d]
 by_cases e:s=[101,108,115,101];.obtain rfl:=u (by rw[e];decide);simp only[go_sem,a,U,Z,b,d,w9 e]
 by_cases i:s=[119,104,105,108,101];.obtain rfl:=u (by rw[i];decide);simp only[go_sem,a,U,Z,b,d,e,w9 i]
 by_cases j:s=[114,101,116,117,114,110];.obtain rfl:=u (by rw[j];decide);simp only[go_sem,a,U,Z,b,d,e,i,w9 j]
 by_cases l:s=[112,117,116];.obtain rfl:=u (by rw[l];decide);simp only[go_sem,a,U,Z,b,d,e,i,j,w9 l]
 by_cases m:s=[103,101,116];.obtain rfl:=u (by rw[m];decide);simp only[go_sem,a,U,Z,b,d,e,i,j,l,w9 m]
 simp only[go_sem,a,U,Z,b,d,e,i,j,l,m];refine dm rfl (by simp only[go_sem];exact Xk ho s) ?_;rintro _ rfl;rw[n];exact gO
def dI(ho:mL o)(s:Str)(b:Bool):cn Tryz.prog 4 o 192 [sv s,bv b] (·=bv (Src.aq b s)):=by
 refine hdG Tryz.func192 rfl [.tmp 4] λO bc s0 w0 g=>?_;unfold Src.aq;cases b;.exact gO
 .simp only[go_sem];refine dm rfl (by simp only[go_sem];exact qh ho s) ?_;rintro _ rfl;exact gO
def tR(ho:mL o)(l:List Str)(hl:z l<=1000000000):cn Tryz.prog 4 o 78 [nR l] (·=bv (l.all ba)):=by
 refine hdG Tryz.func78 rfl [.tmp 2] λO bc s0 w0 g=>?_;unfold nR;simp only[go_sem,j6];refine aF (λX K=>∃k:Nat,X+k=z l/\(l.take k).all ba=T/\K.f 5=.one (aw (l.map λs=>[.str s]))/\K.f 6=ae (z l)/\K.f 7=ae k) (z l) ?_ ?_;.exact W1
 rintro X f n q⟨k,hk,bs,d,a,b⟩;simp only at d a b;have i:=ah (k:=k) a7;by_cases j:k<z l;case neg=>have Q:¬(k:Int)<(z l:Int):=a7;obtain rfl:k=z l:=a7;rw[s6 (l7 _)]at bs;simp only[go_sem,a,b,Q,bs]
 have Q:(k:Int)<(z l:Int):=a7;have bk:(0:Int)<=(k:Int):=a7;obtain⟨s,e⟩:=getq j;simp only[go_sem,d,a,b,Q,bk,e];refine dm rfl (by simp only[go_sem];exact qh ho s) ?_;rintro _ rfl;cases hb:ba s;.simp only[go_sem,Src.all_false e hb]
 .simp only[go_sem,b,i];refine ak (X-1) a7 ⟨k+1,a7,Src.acR bs e hb,?_⟩;simp only[go_sem,d,a]
end
section
open Go Go.Am Go.Asm
open Go.Src (ba aq bV cP Ex Stm)
attribute[local congr]ite_cc
def Hd{o:cM}(ho:mL o)(e:Ex):cn Tryz.prog 4 o 193 [exV e] (·=bv (match e with|.mk kind op num name kids=>bV kind op num name (z kids))):=by
 obtain⟨kind,op,num,name,kids⟩:=e;refine hdG Tryz.func193 rfl [.tmp 2] λO bc s0 w0 g=>?_;simp only;obtain⟨X,y⟩:∃X,bV kind op num name (z kids)=X:=⟨_,rfl⟩;rw[y];unfold exV;simp only[exD,aL,s7,x7];unfold bV at y;by_cases d:kind=1
 .rw[s5 d]at y;by_cases l:op=0;case neg=>
   obtain rfl:X=F:=by grind
   simp only[go_sem,w9 d,l]
  simp only[go_sem,w9 d,w9 l];refine dm rfl aa5 ?_;rintro _ rfl;cases H:aq F name
  .obtain rfl:X=F:=by grind
   simp only[go_sem,w9 d,w9 l]
  by_cases b:z kids=0;case neg=>
   obtain rfl:X=F:=by grind
   have m:(0:Int)<=(z kids:Int):=a7;have c:¬(z kids:Int)<=0:=a7;simp only[go_sem,w9 d,w9 l,j6,m,c]
  have m:(0:Int)<=(z kids:Int):=a7;have c:(z kids:Int)<=0:=a7;obtain rfl:X=T:=by grind
  simp only[go_sem,w9 d,w9 l,j6,m,c]
 by_cases j:kind=2
 .rw[l4 d,s5 j]at y;by_cases l:op=0;case neg=>
   obtain rfl:X=F:=by grind
   simp only[go_sem,w9 j,d,l]
  by_cases t:num=0;case neg=>
   obtain rfl:X=F:=by grind
   simp only[go_sem,w9 j,d,w9 l,t]
  simp only[go_sem,w9 j,d,w9 l,w9 t];refine dm rfl abg ?_;rintro _ rfl;cases H:aq T name
  .obtain rfl:X=F:=by grind
   simp only[go_sem,w9 j,d,w9 l,w9 t]
  by_cases b:z kids=0;case neg=>
   obtain rfl:X=F:=by grind
   have m:(0:Int)<=(z kids:Int):=a7;have c:¬(z kids:Int)<=0:=a7;simp only[go_sem,w9 j,d,w9 l,w9 t,j6,m,c]
  have m:(0:Int)<=(z kids:Int):=a7;have c:(z kids:Int)<=0:=a7;obtain rfl:X=T:=by grind
  simp only[go_sem,w9 j,d,w9 l,w9 t,j6,m,c]
 by_cases q:kind=3
 .rw[l4 d,l4 j,s5 q]at y;by_cases l:op=0;case neg=>
   obtain rfl:X=F:=by grind
   simp only[go_sem,w9 q,d,j,l]
  by_cases t:num=0;case neg=>
   obtain rfl:X=F:=by grind
   simp only[go_sem,w9 q,d,j,w9 l,t]
  simp only[go_sem,w9 q,d,j,w9 l,w9 t];refine dm rfl abg ?_;rintro _ rfl;cases H:aq T name
  .obtain rfl:X=F:=by grind
   simp only[go_sem,w9 q,d,j,w9 l,w9 t]
  by_cases b:z kids=1;case neg=>
   obtain rfl:X=F:=by grind
   by_cases m:(1:Int)<=(z kids:Int);.have c:¬(z kids:Int)<=1:=a7;simp only[go_sem,w9 q,d,j,w9 l,w9 t,j6,m,c]
   .simp only[go_sem,w9 q,d,j,w9 l,w9 t,j6,m]
  have m:(1:Int)<=(z kids:Int):=a7;have c:(z kids:Int)<=1:=a7;obtain rfl:X=T:=by grind
  simp only[go_sem,w9 q,d,j,w9 l,w9 t,j6,m,c]
 by_cases u:kind=4
 .rw[l4 d,l4 j,l4 q,s5 u]at y;by_cases l:op=0;case neg=>
   obtain rfl:X=F:=by grind
   simp only[go_sem,w9 u,d,j,q,l]
  by_cases t:num=0;case neg=>
   obtain rfl:X=F:=by grind
   simp only[go_sem,w9 u,d,j,q,w9 l,t]
  simp only[go_sem,w9 u,d,j,q,w9 l,w9 t];refine dm rfl abg ?_;rintro _ rfl;cases H:aq T name
  .obtain rfl:X=F:=by grind
   simp only[go_sem,w9 u,d,j,q,w9 l,w9 t]
  have m:(0:Int)<=(z kids:Int):=a7;by_cases b:z kids<=6;case neg=>
   obtain rfl:X=F:=by grind
   have c:¬(z kids:Int)<=6:=a7;simp only[go_sem,w9 u,d,j,q,w9 l,w9 t,j6,m,c]
  have c:(z kids:Int)<=6:=a7;obtain rfl:X=T:=by grind
  simp only[go_sem,w9 u,d,j,q,w9 l,w9 t,j6,m,c]
 by_cases v:kind=5
 .rw[l4 d,l4 j,l4 q,l4 u,s5 v]at y;by_cases l:op=0;case neg=>
   obtain rfl:X=F:=by grind
   simp only[go_sem,w9 v,d,j,q,u,l]
  by_cases t:num=0;case neg=>
   obtain rfl:X=F:=by grind
   simp only[go_sem,w9 v,d,j,q,u,w9 l,t]
  simp only[go_sem,w9 v,d,j,q,u,w9 l,w9 t];refine dm rfl aa5 ?_;rintro _ rfl;cases H:aq F name
  .obtain rfl:X=F:=by grind
   simp only[go_sem,w9 v,d,j,q,u,w9 l,w9 t]
  by_cases b:z kids=0;case neg=>
   obtain rfl:X=F:=by grind
   have m:(0:Int)<=(z kids:Int):=a7;have c:¬(z kids:Int)<=0:=a7;simp only[go_sem,w9 v,d,j,q,u,w9 l,w9 t,j6,m,c]
  have m:(0:Int)<=(z kids:Int):=a7;have c:(z kids:Int)<=0:=a7;obtain rfl:X=T:=by grind
  simp only[go_sem,w9 v,d,j,q,u,w9 l,w9 t,j6,m,c]
 by_cases P:kind=6
 .rw[l4 d,l4 j,l4 q,l4 u,l4 v,s5 P]at y;by_cases an:op<4;case pos=>
   have I:¬4<=op:=a7;obtain rfl:X=F:=by grind
   simp only[go_sem,w9 P,d,j,q,u,v,an]
  by_cases a:15<op;case pos=>
   have I:¬op<=15:=a7;obtain rfl:X=F:=by grind
   simp only[go_sem,w9 P,d,j,q,u,v,an,a]
  have i:4<=op:=a7;have A:op<=15:=a7;by_cases t:num=0;case neg=>
   obtain rfl:X=F:=by grind
   simp only[go_sem,w9 P,d,j,q,u,v,an,a,t]
  simp only[go_sem,w9 P,d,j,q,u,v,an,a,w9 t];refine dm rfl aa5 ?_;rintro _ rfl;cases H:aq F name
  .obtain rfl:X=F:=by grind
   simp only[go_sem,w9 P,d,j,q,u,v,an,a,w9 t]
  by_cases b:z kids=2;case neg=>
   obtain rfl:X=F:=by grind
   by_cases m:(2:Int)<=(z kids:Int);.have c:¬(z kids:Int)<=2:=a7;simp only[go_sem,w9 P,d,j,q,u,v,an,a,w9 t,j6,m,c]
   .simp only[go_sem,w9 P,d,j,q,u,v,an,a,w9 t,j6,m]
  have m:(2:Int)<=(z kids:Int):=a7;have c:(z kids:Int)<=2:=a7;obtain rfl:X=T:=by grind
  simp only[go_sem,w9 P,d,j,q,u,v,an,a,w9 t,j6,m,c]
 by_cases w:kind=7
 .rw[l4 d,l4 j,l4 q,l4 u,l4 v,l4 P,s5 w]at y;by_cases l:op=0;case neg=>
   obtain rfl:X=F:=by grind
   simp only[go_sem,w9 w,d,j,q,u,v,P,l]
  by_cases t:num=0;case neg=>
   obtain rfl:X=F:=by grind
   simp only[go_sem,w9 w,d,j,q,u,v,P,w9 l,t]
  simp only[go_sem,w9 w,d,j,q,u,v,P,w9 l,w9 t];refine dm rfl aa5 ?_;rintro _ rfl;cases H:aq F name
  .obtain rfl:X=F:=by grind
   simp only[go_sem,w9 w,d,j,q,u,v,P,w9 l,w9 t]
  by_cases b:z kids=1;case neg=>
   obtain rfl:X=F:=by grind
   by_cases m:(1:Int)<=(z kids:Int);.have c:¬(z kids:Int)<=1:=a7;simp only[go_sem,w9 w,d,j,q,u,v,P,w9 l,w9 t,j6,m,c]
   .simp only[go_sem,w9 w,d,j,q,u,v,P,w9 l,w9 t,j6,m]
  have m:(1:Int)<=(z kids:Int):=a7;have c:(z kids:Int)<=1:=a7;obtain rfl:X=T:=by grind
  simp only[go_sem,w9 w,d,j,q,u,v,P,w9 l,w9 t,j6,m,c]
 by_cases x:kind=8
 .rw[l4 d,l4 j,l4 q,l4 u,l4 v,l4 P,l4 w,s5 (Or.inl x)]at y;by_cases l:op=0;case neg=>
   obtain rfl:X=F:=by grind
   simp only[go_sem,w9 x,d,j,q,u,v,P,w,l]
  by_cases t:num=0;case neg=>
   obtain rfl:X=F:=by grind
   simp only[go_sem,w9 x,d,j,q,u,v,P,w,w9 l,t]
  simp only[go_sem,w9 x,d,j,q,u,v,P,w,w9 l,w9 t];refine dm rfl aa5 ?_;rintro _ rfl;cases H:aq F name
  .obtain rfl:X=F:=by grind
   simp only[go_sem,w9 x,d,j,q,u,v,P,w,w9 l,w9 t]
  by_cases b:z kids=2;case neg=>
   obtain rfl:X=F:=by grind
   by_cases m:(2:Int)<=(z kids:Int);.have c:¬(z kids:Int)<=2:=a7;simp only[go_sem,w9 x,d,j,q,u,v,P,w,w9 l,w9 t,j6,m,c]
   .simp only[go_sem,w9 x,d,j,q,u,v,P,w,w9 l,w9 t,j6,m]
  have m:(2:Int)<=(z kids:Int):=a7;have c:(z kids:Int)<=2:=a7;obtain rfl:X=T:=by grind
  simp only[go_sem,w9 x,d,j,q,u,v,P,w,w9 l,w9 t,j6,m,c]
 by_cases n:kind=9
 .rw[l4 d,l4 j,l4 q,l4 u,l4 v,l4 P,l4 w,s5 (Or.inr n)]at y;by_cases l:op=0;case neg=>
   obtain rfl:X=F:=by grind
   simp only[go_sem,w9 n,d,j,q,u,v,P,w,x,l]
  by_cases t:num=0;case neg=>
   obtain rfl:X=F:=by grind
   simp only[go_sem,w9 n,d,j,q,u,v,P,w,x,w9 l,t]
  simp only[go_sem,w9 n,d,j,q,u,v,P,w,x,w9 l,w9 t];refine dm rfl aa5 ?_;rintro _ rfl;cases H:aq F name
  .obtain rfl:X=F:=by grind
   simp only[go_sem,w9 n,d,j,q,u,v,P,w,x,w9 l,w9 t]
  by_cases b:z kids=2;case neg=>
   obtain rfl:X=F:=by grind
   by_cases m:(2:Int)<=(z kids:Int);.have c:¬(z kids:Int)<=2:=a7;simp only[go_sem,w9 n,d,j,q,u,v,P,w,x,w9 l,w9 t,j6,m,c]
   .simp only[go_sem,w9 n,d,j,q,u,v,P,w,x,w9 l,w9 t,j6,m]
  have m:(2:Int)<=(z kids:Int):=a7;have c:(z kids:Int)<=2:=a7;obtain rfl:X=T:=by grind
  simp only[go_sem,w9 n,d,j,q,u,v,P,w,x,w9 l,w9 t,j6,m,c]
 obtain rfl:X=F:=by grind
 simp only[go_sem,d,j,q,u,v,P,w,x,n]
end
section
open Go Go.Am Go.Asm
open Go.Src (ba aq bV cP dn bp szE aO Ex Stm)
attribute[local congr]ite_cc
def Cr{o:cM}(ho:mL o):∀(al:Nat)(l:List Ex)(q:Nat),aO l<=al->al<=1000000000->q<=25->cn Tryz.prog 4 o 123 [ea l,ae q] (·=bv (bp q l)):=by intro al;induction al using Nat.strongRecOn with|ind al w=>
 intro l q az H j;refine hdG Tryz.func123 rfl [.tmp 4] λO bc s0 w0 g=>?_;obtain⟨X,hz⟩:∃X,bp q l=X:=⟨_,rfl⟩;rw[hz];have I:=Src.PS l;have u:=ah (k:=q) a7;unfold ea;by_cases c:0<z l/\24<q
 .have U:(0:Int)<(z l:Int):=a7;have Z:(24:Int)<(q:Int):=a7;obtain rfl:X=F:=by rw[<-hz];cases l with|nil=>grind;|cons e l=>obtain⟨kind,op,num,name,i⟩:=e;simp[bp,dn];omega
  simp only[go_sem,j6,U,Z]
 by_cases ch:l=[];.exact oc
 have ft:0<z l:=J0.2 ch;have x:(0:Int)<(z l:Int):=a7;have y:¬(24:Int)<(q:Int):=a7;simp only[go_sem,j6,x,y];refine aF (λm K=>∃k:Nat,m+k=z l/\(l.take k).all (dn q)=T/\K.f 1=ae q/\K.f 14=.one (aw (l.map exD))/\K.f 15=ae (z l)/\K.f 16=ae k) (z l) ?_ ?_;.exact W1
 rintro m f g1 av⟨k,hk,bs,n,G,b,E⟩;simp only at n G b E;have A:=ah (k:=k) a7;by_cases B:k<z l;case neg=>
  have Q:¬(k:Int)<(z l:Int):=a7;obtain rfl:k=z l:=a7;rw[s6 (l7 _)]at bs;obtain rfl:X=T:=by rw[<-hz,Src.FI];exact bs
  simp only[go_sem,b,E,Q]
 have Q:(k:Int)<(z l:Int):=a7;have bk:(0:Int)<=(k:Int):=a7;obtain⟨e,t⟩:=getq B;obtain⟨kind,op,num,name,i⟩:=e;have a:=Src.vu (l8 t);rw[szE]at a;have v:exD (.mk kind op num name i)=[.int .i64 kind,.int .i64 op,.int .u32 num,.str name,.sl (i.map exD)]:=by simp only[exD,aL]
 have hF:=Hd ho (.mk kind op num name i);have J:=w (aO i) a7 i (q+1) (l7 _) a7 a7;unfold exV at hF;unfold ea at J;rw[v]at hF;simp only[s7,x7]at hF;have d:q<=24:=a7;simp only[go_sem,n,G,b,E,Q,bk,t,v];refine dm rfl adh ?_;rintro _ rfl;cases hf:bV kind op num name (z i)
 .obtain rfl:X=F:=by rw[<-hz,Src.FI];exact Src.all_false t (by simp[dn,hf])
  simp only[go_sem,hf]
 simp only[go_sem,n,u];refine dm rfl (by simp only[go_sem,n,u];exact J) ?_;rintro _ rfl;cases V:bp (q+1) i
 .obtain rfl:X=F:=by rw[<-hz,Src.FI];exact Src.all_false t (by simp[dn,hf,V])
  exact gO
 .simp only[go_sem,E,A];refine ak (m-1) a7 ⟨k+1,a7,Src.acR bs t (by simp[dn,hf,V,d]),?_⟩;simp only[go_sem,n,G,b]
def He{o:cM}(ho:mL o)(e:Stm):cn Tryz.prog 4 o 122 [smV e] (·=bv (match e with|.mk kind name e q el=>cP kind name (z e) (z q) (z el))):=by
 obtain⟨kind,name,e,q,el⟩:=e;refine hdG Tryz.func122 rfl [.tmp 2] λO bc s0 w0 g=>?_;simp only;obtain⟨X,n⟩:∃X,cP kind name (z e) (z q) (z el)=X:=⟨_,rfl⟩;rw[n];unfold smV;simp only[smD,aL,dy,s7,x7];unfold cP at n;by_cases a:kind=1
 .rw[s5 a]at n;simp only[go_sem,w9 a];refine dm rfl abg ?_;rintro _ rfl;cases H:aq T name
  .obtain rfl:X=F:=by grind
   simp only[go_sem,w9 a]
  have u:(0:Int)<=(z e:Int):=a7;by_cases m:(z e:Int)<1
  .obtain rfl:X=F:=by grind
   simp only[go_sem,w9 a,j6,m]
  by_cases c:(1:Int)<(z e:Int)
  .obtain rfl:X=F:=by grind
   simp only[go_sem,w9 a,j6,m,c]
  by_cases L:(z q:Int)=0;case neg=>
   obtain rfl:X=F:=by grind
   simp only[go_sem,w9 a,j6,m,c,L]
  by_cases l:(z el:Int)=0;case neg=>
   obtain rfl:X=F:=by grind
   simp only[go_sem,w9 a,j6,m,c,L,l]
  obtain rfl:X=T:=by grind
  simp only[go_sem,w9 a,j6,m,c,L,l]
 by_cases b:kind=2
 .rw[l4 a,s5 b]at n;simp only[go_sem,w9 b,a];refine dm rfl abg ?_;rintro _ rfl;cases H:aq T name
  .obtain rfl:X=F:=by grind
   simp only[go_sem,w9 b,a]
  have u:(0:Int)<=(z e:Int):=a7;by_cases m:(z e:Int)<2
  .obtain rfl:X=F:=by grind
   simp only[go_sem,w9 b,a,j6,m]
  by_cases c:(2:Int)<(z e:Int)
  .obtain rfl:X=F:=by grind
   simp only[go_sem,w9 b,a,j6,m,c]
  by_cases L:(z q:Int)=0;case neg=>
   obtain rfl:X=F:=by grind
   simp only[go_sem,w9 b,a,j6,m,c,L]
  by_cases l:(z el:Int)=0;case neg=>
   obtain rfl:X=F:=by grind
   simp only[go_sem,w9 b,a,j6,m,c,L,l]
  obtain rfl:X=T:=by grind
  simp only[go_sem,w9 b,a,j6,m,c,L,l]
 by_cases d:kind=3
 .rw[l4 a,l4 b,s5 d]at n;simp only[go_sem,w9 d,a,b];refine dm rfl aa5 ?_;rintro _ rfl;cases H:aq F name
  .obtain rfl:X=F:=by grind
   simp only[go_sem,w9 d,a,b]
  have u:(0:Int)<=(z e:Int):=a7;by_cases m:(z e:Int)<1
  .obtain rfl:X=F:=by grind
   simp only[go_sem,w9 d,a,b,j6,m]
  by_cases c:(1:Int)<(z e:Int)
  .obtain rfl:X=F:=by grind
   simp only[go_sem,w9 d,a,b,j6,m,c]
  by_cases L:(z q:Int)=0;case neg=>
   obtain rfl:X=F:=by grind
   simp only[go_sem,w9 d,a,b,j6,m,c,L]
  by_cases l:(z el:Int)=0;case neg=>
   obtain rfl:X=F:=by grind
   simp only[go_sem,w9 d,a,b,j6,m,c,L,l]
  obtain rfl:X=T:=by grind
  simp only[go_sem,w9 d,a,b,j6,m,c,L,l]
 by_cases i:kind=4
 .rw[l4 a,l4 b,l4 d,s5 i]at n;simp only[go_sem,w9 i,a,b,d];refine dm rfl aa5 ?_;rintro _ rfl;cases H:aq F name
  .obtain rfl:X=F:=by grind
   simp only[go_sem,w9 i,a,b,d]
  have u:(0:Int)<=(z e:Int):=a7;by_cases m:(z e:Int)<1
  .obtain rfl:X=F:=by grind
   simp only[go_sem,w9 i,a,b,d,j6,m]
  by_cases c:(1:Int)<(z e:Int)
  .obtain rfl:X=F:=by grind
   simp only[go_sem,w9 i,a,b,d,j6,m,c]
  obtain rfl:X=T:=by grind
  simp only[go_sem,w9 i,a,b,d,j6,m,c]
 by_cases j:kind=5
 .rw[l4 a,l4 b,l4 d,l4 i,s5 j]at n;simp only[go_sem,w9 j,a,b,d,i];refine dm rfl aa5 ?_;rintro _ rfl;cases H:aq F name
  .obtain rfl:X=F:=by grind
   simp only[go_sem,w9 j,a,b,d,i]
  have u:(0:Int)<=(z e:Int):=a7;by_cases m:(z e:Int)<1
  .obtain rfl:X=F:=by grind
   simp only[go_sem,w9 j,a,b,d,i,j6,m]
  by_cases c:(1:Int)<(z e:Int)
  .obtain rfl:X=F:=by grind
   simp only[go_sem,w9 j,a,b,d,i,j6,m,c]
  by_cases l:(z el:Int)=0;case neg=>
   obtain rfl:X=F:=by grind
   simp only[go_sem,w9 j,a,b,d,i,j6,m,c,l]
  obtain rfl:X=T:=by grind
  simp only[go_sem,w9 j,a,b,d,i,j6,m,c,l]
 by_cases P:kind=6
 .rw[l4 a,l4 b,l4 d,l4 i,l4 j,s5 P]at n;simp only[go_sem,w9 P,a,b,d,i,j];refine dm rfl abg ?_;rintro _ rfl;cases H:aq T name
  .obtain rfl:X=F:=by grind
   simp only[go_sem,w9 P,a,b,d,i,j]
  have u:(0:Int)<=(z e:Int):=a7;have m:¬(z e:Int)<0:=a7;by_cases c:(6:Int)<(z e:Int)
  .obtain rfl:X=F:=by grind
   simp only[go_sem,w9 P,a,b,d,i,j,j6,m,c]
  by_cases L:(z q:Int)=0;case neg=>
   obtain rfl:X=F:=by grind
   simp only[go_sem,w9 P,a,b,d,i,j,j6,m,c,L]
  by_cases l:(z el:Int)=0;case neg=>
   obtain rfl:X=F:=by grind
   simp only[go_sem,w9 P,a,b,d,i,j,j6,m,c,L,l]
  obtain rfl:X=T:=by grind
  simp only[go_sem,w9 P,a,b,d,i,j,j6,m,c,L,l]
 by_cases t:kind=7
 .rw[l4 a,l4 b,l4 d,l4 i,l4 j,l4 P,s5 t]at n;simp only[go_sem,w9 t,a,b,d,i,j,P];refine dm rfl aa5 ?_;rintro _ rfl;cases H:aq F name
  .obtain rfl:X=F:=by grind
   simp only[go_sem,w9 t,a,b,d,i,j,P]
  have u:(0:Int)<=(z e:Int):=a7;have m:¬(z e:Int)<0:=a7;by_cases c:(1:Int)<(z e:Int)
  .obtain rfl:X=F:=by grind
   simp only[go_sem,w9 t,a,b,d,i,j,P,j6,m,c]
  by_cases L:(z q:Int)=0;case neg=>
   obtain rfl:X=F:=by grind
   simp only[go_sem,w9 t,a,b,d,i,j,P,j6,m,c,L]
  by_cases l:(z el:Int)=0;case neg=>
   obtain rfl:X=F:=by grind
   simp only[go_sem,w9 t,a,b,d,i,j,P,j6,m,c,L,l]
  obtain rfl:X=T:=by grind
  simp only[go_sem,w9 t,a,b,d,i,j,P,j6,m,c,L,l]
 obtain rfl:X=F:=by grind
 simp only[go_sem,a,b,d,i,j,P,t]
end
open Go Go.Am Go.Asm
open Go.Src (ba aq bV cP dn bp dC bD de fR ct szE aO szS aI Ex Stm)
attribute[local congr]ite_cc
def Cs{o:cM}(ho:mL o):∀(al:Nat)(l:List Stm)(q:Nat),aI l<=al->al<=1000000000->q<=25->cn Tryz.prog 4 o 80 [eU l,ae q] (·=bv (bD q l)):=by intro al;induction al using Nat.strongRecOn with|ind al x=>
 intro l q az Y j;refine hdG Tryz.func80 rfl [.tmp 4] λO bc s0 w0 g=>?_;obtain⟨X,hz⟩:∃X,bD q l=X:=⟨_,rfl⟩;rw[hz];have b4:=Src.PT l;have v:=ah (k:=q) a7;unfold eU;by_cases c:0<z l/\24<q
 .have U:(0:Int)<(z l:Int):=a7;have Z:(24:Int)<(q:Int):=a7;obtain rfl:X=F:=by rw[<-hz];cases l with|nil=>grind;|cons e l=>obtain⟨kind,name,e,n,el⟩:=e;have:¬q<=24:=a7;simp[bD,dC,this]
  simp only[go_sem,j6,U,Z]
 by_cases ch:l=[];.exact oc
 have ft:0<z l:=J0.2 ch;have I:(0:Int)<(z l:Int):=a7;have J:¬(24:Int)<(q:Int):=a7;simp only[go_sem,j6,I,J];refine aF (λm K=>∃k:Nat,m+k=z l/\(l.take k).all (dC q)=T/\K.f 1=ae q/\K.f 14=.one (aw (l.map smD))/\K.f 15=ae (z l)/\K.f 16=ae k) (z l) ?_ ?_;.exact W1
 rintro m f g1 av⟨k,hk,bs,i,G,b,E⟩;simp only at i G b E;have L:=ah (k:=k) a7;by_cases W:k<z l;case neg=>
  have Q:¬(k:Int)<(z l:Int):=a7;obtain rfl:k=z l:=a7;rw[s6 (l7 _)]at bs;obtain rfl:X=T:=by rw[<-hz,Src.FJ];exact bs
  simp only[go_sem,b,E,Q]
 have Q:(k:Int)<(z l:Int):=a7;have bk:(0:Int)<=(k:Int):=a7;obtain⟨e,t⟩:=getq W;obtain⟨kind,name,u,n,el⟩:=e;have a:=Src.nd (l8 t);rw[szS]at a;have y:smD (.mk kind name u n el)=[.int .i64 kind,.str name,.sl (u.map exD),.sl (n.map smD),.sl (el.map smD)]:=by simp only[smD,aL,dy]
 have hF:=He ho (.mk kind name u n el);have hX:=Cr ho (aO u) u (q+1) (l7 _) a7 a7;have A:=x (aI n) a7 n (q+1) (l7 _) a7 a7;have B:=x (aI el) a7 el (q+1) (l7 _) a7 a7;unfold smV at hF;unfold ea at hX;unfold eU at A B;rw[y]at hF;simp only[s7,x7]at hF;have d:q<=24:=a7;simp only[go_sem,i,G,b,E,Q,bk,t,y];refine dm rfl adh ?_;rintro _ rfl;cases hf:cP kind name (z u) (z n) (z el)
 .obtain rfl:X=F:=by rw[<-hz,Src.FJ];exact Src.all_false t (by simp[dC,hf])
  simp only[go_sem,hf]
 simp only[go_sem,i,v];refine dm rfl (by simp only[go_sem,i,v];exact hX) ?_;rintro _ rfl;cases V:bp (q+1) u
 .obtain rfl:X=F:=by rw[<-hz,Src.FJ];exact Src.all_false t (by simp[dC,hf,V])
  exact gO
 simp only[go_sem,i,v];refine dm rfl (by simp only[go_sem,i,v];exact A) ?_;rintro _ rfl;cases w:bD (q+1) n
 .obtain rfl:X=F:=by rw[<-hz,Src.FJ];exact Src.all_false t (by simp[dC,hf,V,w])
  exact gO
 simp only[go_sem,i,v];refine dm rfl (by simp only[go_sem,i,v];exact B) ?_;rintro _ rfl;cases H:bD (q+1) el
 .obtain rfl:X=F:=by rw[<-hz,Src.FJ];exact Src.all_false t (by simp[dC,hf,V,w,H])
  exact gO
 .simp only[go_sem,E,L];refine ak (m-1) a7 ⟨k+1,a7,Src.acR bs t (by simp[dC,hf,V,w,H,d]),?_⟩;simp only[go_sem,i,G,b]
def szP(p:Src.Prog):Nat:=z p.v+z p.a+z p.f+(p.f.map λf=>z f.p+z f.l+aI f.body).sum
def lZ{p:Src.Prog}{f:Src.Fn}(h:f∈p.f):z f.p+z f.l+aI f.body<=szP p:=by
 have:∀l:List Src.Fn,f∈l->z f.p+z f.l+aI f.body<=(l.map λf=>z f.p+z f.l+aI f.body).sum:=by intro l;induction l with|nil=>simp;|cons x l a=>grind
 have:=this _ h;unfold szP;omega
def Jc{o:cM}(ho:mL o)(p:Src.Prog)(az:szP p<=1000000000):cn Tryz.prog 4 o 44 [cK p] (·=bv (ct p)):=by
 refine hdG Tryz.func44 rfl [.tmp 2] λO bc s0 w0 g=>?_;obtain⟨X,B⟩:∃X,ct p=X:=⟨_,rfl⟩;rw[B];obtain⟨vs,u,fs⟩:=p;have G:=az;unfold szP at az;simp only at az;unfold ct at B;simp only at B;unfold cK kG;by_cases U:z fs<1
 .have r:(z fs:Int)<1:=a7;obtain rfl:X=F:=by grind
  simp only[go_sem,j6,r]
 have r:¬(z fs:Int)<1:=a7;by_cases Z:64<z fs
 .have b:(64:Int)<(z fs:Int):=a7;obtain rfl:X=F:=by grind
  simp only[go_sem,j6,r,b]
 have b:¬(64:Int)<(z fs:Int):=a7;have hA:=tR ho vs a7;unfold nR at hA;simp only[go_sem,j6,r,b];refine dm rfl (by simp only[go_sem];exact hA) ?_;rintro _ rfl;cases hv:vs.all ba;.exact q9
 simp only[go_sem,j6];refine aF (λm K=>∃k:Nat,m+k=z u/\(u.take k).all fR=T/\K.f 1=aj 1 (K.gen 1) 0/\K.obj 1=S [aw (vs.map λs=>[.str s]),aw (u.map arD),aw (fs.map fnD)]/\K.f 24=.one (aw (u.map arD))/\K.f 25=ae (z u)/\K.f 26=ae k) (z u) ?_ ?_;.exact W1
 clear g;rintro m f g ob⟨k,hk,bs,J,o1,c1,h,c⟩;simp only at J o1 c1 h c;have Y:=ah (k:=k) a7;by_cases af:k<z u
 .have Q:(k:Int)<(z u:Int):=a7;have bk:(0:Int)<=(k:Int):=a7;obtain⟨⟨I,sz⟩,A⟩:=getq af;simp only[go_sem,J,o1,c1,h,c,Q,bk,A,arD];refine dm rfl (by simp only[go_sem];exact qh ho I) ?_;rintro _ rfl;cases hb:ba I
  .obtain rfl:X=F:=by rw[<-B,Src.all_false (p:=fR) A (by simp[fR,hb])];simp
   exact gO
  by_cases a1:sz<1
  .obtain rfl:X=F:=by rw[<-B,Src.all_false (p:=fR) A (by simp[fR,hb];omega)];simp
   simp only[go_sem,a1]
  by_cases bf:4096<sz
  .obtain rfl:X=F:=by rw[<-B,Src.all_false (p:=fR) A (by simp[fR,hb];omega)];simp
   simp only[go_sem,a1,bf]
  simp only[go_sem,a1,bf,c,Y];refine ak (m-1) a7 ⟨k+1,a7,Src.acR bs A (by simp[fR,hb];omega),?_⟩;simp only[go_sem,J,o1,c1,h]
 have Q:¬(k:Int)<(z u:Int):=a7;obtain rfl:k=z u:=a7;rw[s6 (l7 _)]at bs;simp only[go_sem,J,o1,h,c,Q,j6];refine aF (λm K=>∃k:Nat,m+k=z fs/\(fs.take k).all de=T/\K.f 46=.one (aw (fs.map fnD))/\K.f 47=ae (z fs)/\K.f 48=ae k) (z fs) ?_ ?_;.exact W1
 clear J o1 c1 h c af Q Y hk;rintro m f g ob⟨k,hk,d,E,L,j⟩;simp only at E L j;have Y:=ah (k:=k) a7;by_cases af:k<z fs;case neg=>
  have Q:¬(k:Int)<(z fs:Int):=a7;obtain rfl:k=z fs:=a7;rw[s6 (l7 _)]at d;obtain rfl:X=T:=by grind
  simp only[go_sem,L,j,Q]
 have Q:(k:Int)<(z fs:Int):=a7;have bk:(0:Int)<=(k:Int):=a7;obtain⟨x,A⟩:=getq af;have e:=lZ (p:=⟨vs,u,fs⟩) (l8 A);obtain⟨I,H,V,w,body⟩:=x;simp only at e;have n:=tR ho H a7;have q:=tR ho V a7;have hB:=Cs ho (aI body) body 1 (l7 _) a7 a7;unfold nR at n q;unfold eU at hB;have W:∀{y:Bool},de ⟨I,H,V,w,body⟩=y->y=F->X=F:=λU Z=>by rw[<-B,Src.all_false (p:=de) A (by rw[U,Z])];simp
 simp only[go_sem,E,L,j,Q,bk,A,fnD];refine dm rfl (by simp only[go_sem];exact qh ho I) ?_;rintro _ rfl;cases hb:ba I;.obtain rfl:=W rfl (by simp[de,hb]);exact gO
 by_cases t:6<z H;.have i:(6:Int)<(z H:Int):=a7;obtain rfl:=W rfl (by simp[de,hb];omega);simp only[go_sem,j6,i]
 have i:¬(6:Int)<(z H:Int):=a7;have a:z H<=6:=a7;simp only[go_sem,j6,i];refine dm rfl (by simp only[go_sem];exact n) ?_;rintro _ rfl;cases b8:H.all ba;.obtain rfl:=W rfl (by simp only[de,hb,a,b8];simp);exact gO
 simp only[go_sem];refine dm rfl (by simp only[go_sem];exact q) ?_;rintro _ rfl;cases l:V.all ba;.obtain rfl:=W rfl (by simp only[de,hb,a,b8,l];simp);exact gO
 simp only[go_sem];refine dm rfl abE ?_;rintro _ rfl;cases v:bD 1 body;.obtain rfl:=W rfl (by simp only[de,hb,a,b8,l,v];simp);exact gO
 simp only[go_sem,j,Y];refine ak (m-1) a7 ⟨k+1,a7,Src.acR d A (by simp only[de,hb,a,b8,l,v];simp),?_⟩;simp only[go_sem,E,L]
end Go.Proofs.YtfdbpgoicedpcaaGreatDoor


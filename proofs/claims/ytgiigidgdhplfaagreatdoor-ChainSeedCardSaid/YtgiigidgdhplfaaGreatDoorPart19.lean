/- A part of the proof; no conditions. -/
import Derived.Test.YtgiigidgdhplfaaGreatDoorPart18
import Derived.Shelf.SlicesE.Clone
import Derived.Lib.LaidTab
import Derived.Lib.LaidU8
import Derived.OpenShut
import Derived.Laws.IdiomArrays
import Derived.Test.YtgiigidgdhplfaaGreatDoorTie
import Derived.Test.YtgiigidgdhplfaaGreatDoorCards
set_option linter.unusedSimpArgs false
set_option linter.unusedVariables false
set_option maxHeartbeats 64000000
set_option maxRecDepth 100000
namespace Go.Mach
section
open Go.Asm (Str)
section
variable {s:Str}
theorem RS{a b c d:UInt8} (h0:s[0]? = some a) (h1:s[1]? = some b) (h2:s[2]? = some c) (h3:s[3]? = some d):s.take 4=[a,b,c,d]:=by
 match s with
 |a'::b'::c'::d'::r=>
   simp at h0 h1 h2 h3
   subst h0 h1 h2 h3
   rfl
 |[]=>simp at h0
 |[_]=>simp at h1
 |[_,_]=>simp at h2
 |[_,_,_]=>simp at h3
def eD (s:Str) (k:Nat):Nat:=w4 (s.getD k 0) (s.getD (k+1) 0) (s.getD (k+2) 0) (s.getD (k+3) 0)
theorem jT{k:Nat} (h:k<s.length):s[k]? = some (s.getD k 0):=by rw[D0,w9 h];rfl
theorem pR (s:Str) (k:Nat):eD s k<4294967296:=by
 unfold eD w4
 have ha:=(s.getD k 0).toNat_lt;have hb:=(s.getD (k+1) 0).toNat_lt;have hc:=(s.getD (k+2) 0).toNat_lt;have hd:=(s.getD (k+3) 0).toNat_lt
 omega
theorem pS{o k:Nat} (h:o+4*k+4≤s.length):(ez (s.drop o))[k]? = some (eD s (o+4*k)):=by
 unfold eD
 refine sB _ _ ?_ ?_ ?_ ?_ <;> rw[G4]
 ·exact jT a6
 ·rw[show o+(4*k+1)=o+4*k+1 by omega];exact jT a6
 ·rw[show o+(4*k+2)=o+4*k+2 by omega];exact jT a6
 ·rw[show o+(4*k+3)=o+4*k+3 by omega];exact jT a6
theorem zE (h:12≤s.length):ez ((s.take 12).drop 4)=[eD s 4,eD s 8]:=by
 have hlen8:((s.take 12).drop 4).length=8:=by rw[D7,A8];omega
 have hwl:=lu ((s.take 12).drop 4)
 rw[hlen8] at hwl
 have hl:(s.take 12).length=12:=by rw[A8];omega
 have hg:∀j,j<12→(s.take 12).getD j 0=s.getD j 0:=fun j hj=>by
  rw[D0,D0,G8,if_pos hj]
 have e0:=pS (s:=s.take 12) (o:=4) (k:=0) a6
 have e1:=pS (s:=s.take 12) (o:=4) (k:=1) a6
 unfold eD at e0 e1
 rw[hg _ a8,hg _ a8,hg _ a8,hg _ a8] at e0 e1
 match hx:ez ((s.take 12).drop 4),hwl with
 |[a,b],_=>
   rw[hx] at e0 e1
   simp at e0 e1
   rw[e0,e1]
   rfl
theorem ya (h:12≤s.length) (h2:s.take 4=[83,69,69,68]) :
  eA s=if 16384<eD s 4∨32768<eD s 8∨s.length≠12+4*eD s 4 then none else some (ez (s.drop 12),eD s 8):=by
 unfold eA
 rw[zE h]
 simp only
 by_cases h3:65548<s.length
 ·rw[if_pos (.inr (.inr h3)),if_pos a6]
 ·rw[if_neg (by rw[not_or,not_or];exact⟨a6,fun h=>h h2,h3⟩)]
  by_cases hc:32768<eD s 8∨s.length≠12+4*eD s 4
  ·rw[if_pos hc,if_pos (.inr hc)]
  ·rw[if_neg hc,if_neg a6]
end
end
end Go.Mach
namespace Go.Proofs.YtgiigidgdhplfaaGreatDoor
section
open Go Go.Am Go.Asm Go.Mach Go.Shelf
end
section
open Go Go.Am Go.Asm Go.Mach
theorem Fr.of {g g':Nat→Nat}{ob ob':Obs} (hg:∀i,i<3000→g' i=g i) (ho:∀i,i<3000→ob' i=ob i):Fr g ob g' ob':=fun i hi=>⟨hg i hi,ho i hi⟩
theorem Fr.trans {g g1 g':Nat→Nat}{ob ob1 ob':Obs} (h:Fr g1 ob1 g' ob') (hg:∀i,i<3000→g1 i=g i) (ho:∀i,i<3000→ob1 i=ob i):Fr g ob g' ob':=fun i hi=>⟨(h i hi).1.trans (hg i hi),(h i hi).2.trans (ho i hi)⟩
def okI (op a b c:Nat):Bool:=cj (op:Nat) (a:Nat) (b:Nat) (c:Nat)
theorem Cc {op a b c:Nat} (h:okI op a b c=true):1≤op∧op≤27∧(4≤op∧op≤15→c<16):=by
 unfold okI cj at h
 rw[s9] at h
 obtain⟨h1,h2⟩:=h
 unfold iP at h1
 rw[s9,C4,C4,A6] at h1
 refine⟨h1.1,h1.2,fun h415=>?_⟩
 have hs:Asm.shape op=(true,true,2):=by
  unfold Asm.shape
  rw[if_neg a6,if_neg a6,if_pos h415]
 rw[A6] at h2
 unfold ou inW at h2
 rw[hs] at h2
 simp at h2
 omega
end
end Go.Proofs.YtgiigidgdhplfaaGreatDoor
namespace Go.Mach
section
open Go.Asm (Str)
section
section
variable {okI:Nat→Nat→Nat→Nat→Bool}{code:List Nat}{inp:Str}
def Jm (m m':M):Prop:=m'.mem.length=m.mem.length∧m'.steps≤m.steps+1∧m'.rd≤m.rd+1
theorem Jn {m m1:M} (h:m1.mem.length=m.mem.length∧m1.steps≤m.steps+1∧m1.rd=m.rd) (op a b c:Nat):Jm m (doM code inp m1 op a b c):=by
 obtain⟨h1,h2,h3⟩:=h
 have hn:Jm m m1:=⟨h1,h2,a6⟩
 have hx:∀{pc f:Nat}{r:List Nat}{o:Str},Jm m { m1 with pc:=pc,fin:=f,reg:=r,out:=o }:=⟨h1,h2,by show m1.rd≤_;omega⟩
 unfold doM
 refine cq (fun _=>hx) fun _=>?_
 refine cq (fun _=>hx) fun _=>?_
 refine cq (fun _=>hx) fun _=>?_
 refine cq (fun _=>?_) fun _=>?_
 ·cases m1.mem[(m1.r b+c)%4294967296]? <;> exact hx
 refine cq (fun _=>?_) fun _=>?_
 ·cases code[(m1.r b+c)%4294967296]? <;> exact hx
 refine cq (fun _=>cq (fun _=>⟨by show (m1.mem.set _ _).length=_;rw[C6];exact h1,h2,by show m1.rd≤_;omega⟩) fun _=>hx) fun _=>?_
 refine cq (fun _=>hx) fun _=>?_
 refine cq (fun _=>hx) fun _=>?_
 refine cq (fun _=>hx) fun _=>?_
 refine cq (fun _=>hx) fun _=>?_
 refine cq (fun _=>hx) fun _=>?_
 refine cq (fun _=>?_) fun _=>?_
 ·cases inp[m1.rd]? with
  |none=>exact hx
  |some x=>exact⟨h1,h2,by show m1.rd+1≤_;omega⟩
 refine cq (fun _=>cq (fun _=>hx) fun _=>hx) fun _=>?_
 refine cq (fun _=>cq (fun _=>hx) fun _=>hx) fun _=>?_
 refine cq (fun _=>hx) fun _=>?_
 cases applyN op (m1.r b) (m1.r c) <;> exact hx
theorem Cq (m:M):Jm m (kE okI code inp m):=by
 unfold kE
 cases code[m.pc]? with
 |none=>exact⟨rfl,by show m.steps≤_;omega,by show m.rd≤_;omega⟩
 |some w=>exact cq (fun _=>Jn (m:=m) (m1:={ m with steps:=m.steps+1 }) ⟨rfl,l0 _,rfl⟩ _ _ _ _) fun _=>⟨rfl,by show m.steps+1≤_;omega,by show m.rd≤_;omega⟩
end
end
end
end Go.Mach
namespace Go.Proofs.YtgiigidgdhplfaaGreatDoor
section
open Go Go.Am Go.Asm Go.Mach
def stD (m:M):List D:=.int .i64 (m.pc:Nat)::(m.reg.map fun x=>.int .u32 (x:Nat))++[iQ m.mem,.int .i64 (m.rd:Nat),.str m.out,.int .i64 (m.steps:Nat),.int .i64 (m.fin:Nat)]
def stV (m:M):AV:=.agg ((stD m).map .d)
theorem IP {s:St}{A B:List D}{mc:C}{x:D} (hA:∀y∈A,eQ y=y) (hB:∀y∈B,eQ y=y) (hm:Frz s mc x):jc s (.agg (A.map .d++mc::B.map .d)) (.agg ((A++x::B).map .d)):=by
 refine⟨A++x::B,a7,fun i c hc=>?_,rfl⟩
 by_cases h1:i<A.length
 ·rw[H5 (by simpa using h1),w8] at hc
  rw[H5 h1]
  cases hx:A[i]? with
  |none=>rw[hx] at hc;cases hc
  |some y=>
    rw[hx] at hc;cases hc
    exact⟨y,rfl,by have:=Frz.d (s:=s) y;rwa [hA y (l6 hx)] at this⟩
 ·obtain⟨k,rfl⟩:∃k,i=A.length+k:=⟨i-A.length,a6⟩
  rw[E8 a7,j5,UQ] at hc
  rw[E8 a6,UQ]
  cases k with
  |zero=>simp at hc;subst hc;exact⟨x,rfl,hm⟩
  |succ k=>
    rw[l9,w8] at hc
    rw[l9]
    cases hx:B[k]? with
    |none=>rw[hx] at hc;cases hc
    |some y=>
      rw[hx] at hc;cases hc
      exact⟨y,rfl,by have:=Frz.d (s:=s) y;rwa [hB y (l6 hx)] at this⟩
theorem mT {s:St}{m:M}{mc:C}{l:List C} (hm:Frz s mc (iQ m.mem)) (hl:l=((.int .i64 (m.pc:Nat)::m.reg.map fun x=>D.int .u32 (x:Nat)):List D).map .d++mc::([.int .i64 (m.rd:Nat),.str m.out,.int .i64 (m.steps:Nat),.int .i64 (m.fin:Nat)]:List D).map .d):jc s (.agg l) (stV m):=by
 rw[hl]
 refine IP (fun y hy=>?_) (fun y hy=>?_) hm
 ·rcases x9.1 hy with rfl|hy
  ·rfl
  ·obtain⟨x,_,rfl⟩:=H8.1 hy;rfl
 ·simp only[x9,List.mem_nil_iff,E7] at hy
  rcases hy with rfl|rfl|rfl|rfl <;> rfl
def stC (m:M) (mc:C):List C:=((.int .i64 (m.pc:Nat)::m.reg.map fun x=>D.int .u32 (x:Nat)):List D).map .d++mc::([.int .i64 (m.rd:Nat),.str m.out,.int .i64 (m.steps:Nat),.int .i64 (m.fin:Nat)]:List D).map .d
theorem AO {m:M} (h:m.reg.length=16) (mc:C):(stC m mc).length=22:=by simp[stC,h]
theorem ul:∀(L pre cells:List C),cells.length=L.length→setAt (pre++cells) pre.length L=pre++L
 |[],pre,cells,h=>by
   obtain rfl:=y8 YC
   rfl
 |c::L,pre,x::cells,h=>by
   unfold setAt
   have:=ul L (pre++[c]) cells YC
   rw[r0,r0,j4] at this
   rw[show (pre++x::cells).set pre.length c=pre++([c]++cells) by simp]
   exact this
theorem mV {L cells:List C} (h:cells.length=L.length):setAt cells 0 L=L:=ul L [] cells h
def zb (r:Nat×Str×Nat):AV:=.agg [.d (.int .i64 (r.1:Nat)),.d (.str r.2.1),.d (.int .i64 (r.2.2:Nat))]
theorem Fd {s:St}{a c:Int}{b:Str}:jc s (.agg [.d (.int .i64 a),.d (.str b),.d (.int .i64 c)]) (.agg [.d (.int .i64 a),.d (.str b),.d (.int .i64 c)]):=by
 refine⟨[.int .i64 a,.str b,.int .i64 c],rfl,fun i c hc'=>?_,rfl⟩
 match i,hc' with
 |0,hc'=>cases hc';exact⟨_,rfl,.d _⟩
 |1,hc'=>cases hc';exact⟨_,rfl,.d _⟩
 |2,hc'=>cases hc';exact⟨_,rfl,.d _⟩
def vI:Option (List Nat×Nat)→AV
 |some m=>.tup [eY m,iv .i64 0]
 |none=>.tup [eY ([],0),iv .i64 7]
theorem Fe {s:St}{cc:C}{code:List Nat}{d n:Nat} (hc:Frz s cc (dq code)):nc s [.agg [cc,.d (.int .i64 (d:Nat))],iv .i64 (n:Nat)] (.tup [eY (code,d),iv .i64 (n:Nat)]):=by
 refine⟨_,⟨eY (code,d),_,rfl,⟨[dq code,.int .i64 (d:Nat)],rfl,fun i c hc'=>?_,rfl⟩,_,_,rfl,⟨_,.d _,rfl⟩,rfl⟩,rfl⟩
 match i,hc' with
 |0,hc'=>cases hc';exact⟨_,rfl,hc⟩
 |1,hc'=>cases hc';exact⟨_,rfl,.d _⟩
def se (s inp:Str) (fuel:Nat):Option (Nat×Str×Nat):=(eA s).map fun m=>Cp okI m.1 m.2 inp fuel
def ME:Option (Nat×Str×Nat)→AV
 |some r=>.tup [zb r,iv .i64 0]
 |none=>.tup [zb (0,[],0),iv .i64 7]
end
section
attribute [local congr] Go.Am.ite_cc
open Go Go.Am Go.Asm Go.Mach
theorem zt (w:Nat) (hw:w<4294967296):aG Tryz.prog 167 [iv .u32 w] (· = AN w):=by
 refine hdR Tryz.func167 rfl [.cell 2 69,.tmp 3] fun g=>?_
 have d1:((w:Nat):Int).tdiv 16777216=((w/16777216:Nat):Int):=rfl
 have d2:((w:Nat):Int).tdiv 1048576=((w/1048576:Nat):Int):=rfl
 have d3:((w:Nat):Int).tdiv 65536=((w/65536:Nat):Int):=rfl
 have m1:∀x:Nat,((x:Nat):Int).tmod 16=((x%16:Nat):Int):=fun _=>rfl
 have m2:((w:Nat):Int).tmod 65536=((w%65536:Nat):Int):=rfl
 have c64:∀x:Nat,x<4294967296→IntKind.i64.wrap ((x:Nat):Int)=((x:Nat):Int):=fun x hx=>by rw[wrap_i64] <;> omega
 have u1:=cW (n:=w/16777216) a6
 have u2:=cW (n:=w/1048576) a6
 have u3:=cW (n:=w/65536) a6
 have u4:=cW (n:=w/1048576%16) a6
 have u5:=cW (n:=w/65536%16) a6
 have u6:=cW (n:=w%65536) a6
 simp only[go_sem,d1,d2,d3,m1,m2,u1,u2,u3,u4,u5,u6,c64 (w/16777216) a6,c64 (w/1048576%16) a6,c64 (w/65536%16) a6,c64 (w%65536) a6,da]
 refine fm rfl (by simp only[go_sem];exact DK (w/16777216:Nat) (w/1048576%16:Nat) (w/65536%16:Nat) (w%65536:Nat)) ?_
 rintro _ rfl
 unfold AN
 cases hR:cj (w/16777216:Nat) (w/1048576%16:Nat) (w/65536%16:Nat) (w%65536:Nat)
 ·simp only[go_sem,da]
  exact⟨_,xl,rfl⟩
 ·simp only[go_sem,da]
  exact⟨_,xl,rfl⟩
theorem Je (s:Str) (k:Nat) (h:k+4≤s.length) (hs:s.length≤1000000000):aG Tryz.prog 44 [sv s,iv .i64 k] (· = iv .u32 (eD s k:Nat)):=by
 refine hdP Tryz.func44 rfl [4] fun g=>?_
 have ha:=jT (s:=s) (k:=k) a6
 have hb:=jT (s:=s) (k:=k+1) a6
 have hc:=jT (s:=s) (k:=k+2) a6
 have hd:=jT (s:=s) (k:=k+3) a6
 unfold eD
 generalize s.getD k 0=a at ha ⊢
 generalize s.getD (k+1) 0=b at hb ⊢
 generalize s.getD (k+2) 0=c at hc ⊢
 generalize s.getD (k+3) 0=d at hd ⊢
 have la:=a.toNat_lt
 have lb:=b.toNat_lt
 have lc:=c.toNat_lt
 have ld:=d.toNat_lt
 have ia:IntKind.i64.wrap ((k:Int)+1)=((k+1:Nat):Int):=by rw[wrap_i64] <;> omega
 have ib:IntKind.i64.wrap ((k:Int)+2)=((k+2:Nat):Int):=by rw[wrap_i64] <;> omega
 have ic:IntKind.i64.wrap ((k:Int)+3)=((k+3:Nat):Int):=by rw[wrap_i64] <;> omega
 have p0:(0:Int)≤(k:Int):=a6
 have p1:(0:Int)≤((k+1:Nat):Int):=a6
 have p2:(0:Int)≤((k+2:Nat):Int):=a6
 have p3:(0:Int)≤((k+3:Nat):Int):=a6
 have e1:IntKind.u32.wrap (256*((b.toNat:Nat):Int))=((256*b.toNat:Nat):Int):=by rw[IntKind.wrap_u32];omega
 have e2:IntKind.u32.wrap (65536*((c.toNat:Nat):Int))=((65536*c.toNat:Nat):Int):=by rw[IntKind.wrap_u32];omega
 have e3:IntKind.u32.wrap (16777216*((d.toNat:Nat):Int))=((16777216*d.toNat:Nat):Int):=by rw[IntKind.wrap_u32];omega
 have s1:IntKind.u32.wrap (((a.toNat:Nat):Int)+((256*b.toNat:Nat):Int))=((a.toNat+256*b.toNat:Nat):Int):=by rw[IntKind.wrap_u32];omega
 have s2:IntKind.u32.wrap (((a.toNat+256*b.toNat:Nat):Int)+((65536*c.toNat:Nat):Int))=((a.toNat+256*b.toNat+65536*c.toNat:Nat):Int):=by rw[IntKind.wrap_u32];omega
 have s3:IntKind.u32.wrap (((a.toNat+256*b.toNat+65536*c.toNat:Nat):Int)+((16777216*d.toNat:Nat):Int))=((a.toNat+256*b.toNat+65536*c.toNat+16777216*d.toNat:Nat):Int):=by rw[IntKind.wrap_u32];omega
 simp only[go_sem]
 refine qX b9 ?_
 simp only[go_sem,ia,ib,ic,p0,p1,p2,p3,A6,ha,hb,hc,hd,cW (show a.toNat<4294967296 by omega),cW (show b.toNat<4294967296 by omega),cW (show c.toNat<4294967296 by omega),cW (show d.toNat<4294967296 by omega),e1,e2,e3,s1,s2,s3]
 rfl
theorem Jf {x:UInt8}{n:Nat} (h:¬x=UInt8.ofNat n) (hn:n<256):¬((x.toNat:Nat):Int)=(n:Nat):=fun e=>h (P1.1 (by rw[L2];omega))
theorem zu (s:Str) (hs:s.length≤1000000000):aG Tryz.prog 18 [sv s] (· = vI (eA s)):=by
 refine hdR Tryz.func18 rfl [.cell 2 38,.tmp 3] fun g=>?_
 have bad:eA s=none→vI (eA s)=.tup [eY ([],0),iv .i64 7]:=fun h=>by rw[h];rfl
 by_cases h1:s.length<12
 ·have hi:(s.length:Int)<12:=a6
  rw[bad (by unfold eA;rw[if_pos (.inl h1)])]
  simp only[go_sem,hi,da]
  exact⟨_,iL,rfl⟩
 have hi:¬(s.length:Int)<12:=a6
 obtain⟨x0,g0⟩:=getq (l:=s) (k:=0) a6
 obtain⟨x1,g1⟩:=getq (l:=s) (k:=1) a6
 obtain⟨x2,g2⟩:=getq (l:=s) (k:=2) a6
 obtain⟨x3,g3⟩:=getq (l:=s) (k:=3) a6
 have ht:=RS g0 g1 g2 g3
 have hbad:¬(x0=83∧x1=69∧x2=69∧x3=68)→eA s=none:=fun h=>by
  unfold eA
  rw[if_pos (.inr (.inl (by rw[ht];intro e;simp only[O8,L1] at e;exact h e)))]
 by_cases c0:x0=83
 case neg=>
  rw[bad (hbad (by simp[c0]))]
  have c0:¬((x0.toNat:Nat):Int)=83:=Jf (n:=83) c0 a8
  simp only[go_sem,hi,g0,g1,g2,g3,c0,da]
  exact⟨_,iL,rfl⟩
 by_cases c1:x1=69
 case neg=>
  rw[bad (hbad (by simp[c1]))]
  have c0:((x0.toNat:Nat):Int)=83:=by rw[c0];rfl
  have c1:¬((x1.toNat:Nat):Int)=69:=Jf (n:=69) c1 a8
  simp only[go_sem,hi,g0,g1,g2,g3,c0,c1,da]
  exact⟨_,iL,rfl⟩
 by_cases c2:x2=69
 case neg=>
  rw[bad (hbad (by simp[c2]))]
  have c0:((x0.toNat:Nat):Int)=83:=by rw[c0];rfl
  have c1:((x1.toNat:Nat):Int)=69:=by rw[c1];rfl
  have c2:¬((x2.toNat:Nat):Int)=69:=Jf (n:=69) c2 a8
  simp only[go_sem,hi,g0,g1,g2,g3,c0,c1,c2,da]
  exact⟨_,iL,rfl⟩
 by_cases c3:x3=68
 case neg=>
  rw[bad (hbad (by simp[c3]))]
  have c0:((x0.toNat:Nat):Int)=83:=by rw[c0];rfl
  have c1:((x1.toNat:Nat):Int)=69:=by rw[c1];rfl
  have c2:((x2.toNat:Nat):Int)=69:=by rw[c2];rfl
  have c3:¬((x3.toNat:Nat):Int)=68:=Jf (n:=68) c3 a8
  simp only[go_sem,hi,g0,g1,g2,g3,c0,c1,c2,c3,da]
  exact⟨_,iL,rfl⟩
 have ht':s.take 4=[83,69,69,68]:=by rw[ht,c0,c1,c2,c3]
 have c0:((x0.toNat:Nat):Int)=83:=by rw[c0];rfl
 have c1:((x1.toNat:Nat):Int)=69:=by rw[c1];rfl
 have c2:((x2.toNat:Nat):Int)=69:=by rw[c2];rfl
 have c3:((x3.toNat:Nat):Int)=68:=by rw[c3];rfl
 have hI:=ya (s:=s) a6 ht'
 have hW:=Je s
 have hat:∀k,k+4≤s.length-12→True:=fun _ _=>trivial
 have hx:∀k,12+4*k+4≤s.length→(ez (s.drop 12))[k]? = some (eD s (12+4*k)):=fun k hk=>pS hk
 have hxl:(ez (s.drop 12)).length=(s.length-12)/4:=by rw[lu,D7]
 have hn:=pR s 4
 have hd:=pR s 8
 have hw4:=hW 4 a6 hs
 have hw8:=hW 8 a6 hs
 rw[hI]
 rw[hI] at bad
 clear hI hbad ht ht'
 generalize eD s 4=n at *
 generalize eD s 8=d at *
 generalize ez (s.drop 12)=xs at *
 simp only[go_sem,hi,g0,g1,g2,g3,c0,c1,c2,c3]
 refine fm rfl (by simp only[go_sem];exact hw4) ?_
 rintro _ rfl
 simp only[go_sem]
 refine fm rfl (by simp only[go_sem];exact hw8) ?_
 rintro _ rfl
 have k1:IntKind.i64.wrap ((n:Nat):Int)=((n:Nat):Int):=by rw[wrap_i64] <;> omega
 have k2:IntKind.i64.wrap (4*(n:Int))=((4*n:Nat):Int):=by rw[wrap_i64] <;> omega
 have k3:IntKind.i64.wrap (12+((4*n:Nat):Int))=((12+4*n:Nat):Int):=by rw[wrap_i64] <;> omega
 have k4:IntKind.i64.wrap ((d:Nat):Int)=((d:Nat):Int):=by rw[wrap_i64] <;> omega
 by_cases b1:16384<n
 ·rw[if_pos (.inl b1)]
  have b1:(16384:Int)<(n:Int):=a6
  simp only[go_sem,b1,da]
  exact⟨_,iL,rfl⟩
 have b1i:¬(16384:Int)<(n:Int):=a6
 by_cases b2:32768<d
 ·rw[if_pos (.inr (.inl b2))]
  have b2:(32768:Int)<(d:Int):=a6
  simp only[go_sem,b1i,b2,da]
  exact⟨_,iL,rfl⟩
 have b2i:¬(32768:Int)<(d:Int):=a6
 by_cases b3:s.length=12+4*n
 case neg=>
  rw[if_pos (.inr (.inr b3))]
  have b3:¬(s.length:Int)=((12+4*n:Nat):Int):=a6
  simp only[go_sem,b1i,b2i,k1,k2,k3,b3,da]
  exact⟨_,iL,rfl⟩
 have b3i:(s.length:Int)=((12+4*n:Nat):Int):=a6
 rw[if_neg a6]
 have hxn:xs.length=n:=a6
 simp only[go_sem,b1i,b2i,k1,k2,k3,b3i,k4,da]
 refine du (fun N st=>∃(k:Nat) (cc:C),N+k=n∧st.f 0=sv s∧st.f 4=iv .u32 n∧st.f 7=iv .i64 (k:Nat)∧st.f 2=.one (.ptr 2 (nxC 39 (g 2)) 0)∧st.gen 2=nxC 39 (g 2)∧st.obj 2=some [.d .nsl,.d (.int .i64 0)]∧st.f 6=.one (.ptr 6 (st.gen 6) 0)∧st.obj 6=some [cc,.d (.int .i64 d)]∧
  ((k=0∧cc=.d .nsl)∨(0<k∧cc=.osl 69 (st.gen 69) 1 0 k∧st.obj 69=some (gz (xs.take k))))) n ?_ ?_
 ·refine⟨0,.d .nsl,rfl,?_⟩
  simp only[go_sem]
  exact .inl trivial
 rintro N f g' ob ⟨k,cc,hk,q0,q4,q7,q2,q2g,q2o,q6,q6o,qc⟩
 simp only at q0 q4 q7 q2 q2g q2o q6 q6o qc
 have hw:=ah (k:=k) a6
 by_cases hlt:k<n
 ·have hlti:(k:Int)<(n:Int):=a6
  have k5:IntKind.i64.wrap (4*(k:Int))=((4*k:Nat):Int):=by rw[wrap_i64] <;> omega
  have k6:IntKind.i64.wrap (12+((4*k:Nat):Int))=((12+4*k:Nat):Int):=by rw[wrap_i64] <;> omega
  have hwk:=hW (12+4*k) a6 hs
  have hxk:=hx k a6
  have hlw:=pR s (12+4*k)
  generalize eD s (12+4*k)=w at hwk hxk hlw
  have hnx:xs.take (k+1)=xs.take k++[w]:=by rw[A2,hxk];rfl
  have htl:(xs.take k).length=k:=by rw[A8];omega
  simp only[go_sem,q0,q4,q7,k1,hlti]
  refine dK aB mixed [68,69,6] [([6],[0],[],false),([61],[0],[],false),([0],[],[],false),([7],[],[],false),([64],[],[],false),([65],[],[],false),([63,66],[],[],false),([67],[],[0],false),([62,68],[],[1],false),([6],[],[],false),([70,69],[],[],true)] 3 b9 rfl a8 ?_
  simp only[go_sem]
  iterate 6 (apply aw;· (intro fa ga oa K' hK;simp only[go_sem,q0,q7,q6,q6o,k5,k6] at hK ⊢;exact hK))
  refine aw (v:=iv .u32 (w:Nat)) (fun fa ga oa K' hK=>?_) ?_
  ·simp only[go_sem] at hK ⊢
   refine dX (k:=bx K') rfl (by simp only[go_sem];exact hwk) XX ?_
   exact XJ
  (apply bJ;· (intro fa ga oa K' hK;simp only[go_sem,aC] at hK ⊢;exact hK))
  rcases qc with⟨hk0,rfl⟩|⟨hk0,rfl,qo⟩
  ·(apply bJ;· (intro fa ga oa K' hK;simp only[go_sem,aC] at hK ⊢;exact⟨⟨a8,a8⟩,hK⟩))
   (apply aw;· (intro fa ga oa K' hK;simp only[go_sem,q6,q6o] at hK ⊢;exact hK))
   apply bG
   intro K' hK'
   simp only[go_sem,q6,q6o]
   refine hK' _ ?_
   clear hK' K'
   simp only[go_sem,q7,hw]
   refine bP (N-1) a6 ⟨k+1,.osl 69 (nxC 36 (g' 69)) 1 0 1,a6,?_⟩
   simp only[go_sem,q0,q4,q2,q2g,q2o,q6]
   subst hk0
   refine .inr ⟨a6,rfl,?_⟩
   rw[hnx];rfl
  ·have hcl:(gz (xs.take k)).length=k:=by unfold gz;rw[j5,htl]
   (apply bJ;· (intro fa ga oa K' hK;simp only[go_sem,qo,aC] at hK ⊢;exact⟨a6,⟨a8,a6⟩,hK⟩))
   (apply aw;· (intro fa ga oa K' hK;simp only[go_sem,q6,q6o] at hK ⊢;exact hK))
   apply bG
   intro K' hK'
   simp only[go_sem,q6,q6o]
   refine hK' _ ?_
   clear hK' K'
   simp only[go_sem,q7,hw]
   refine bP (N-1) a6 ⟨k+1,.osl 69 (nxC (apC 35 (g' 69) 0) (g' 69)) 1 0 (k+1),a6,?_⟩
   simp only[go_sem,q0,q4,q2,q2g,q2o,q6]
   refine .inr ⟨a6,?_⟩
   rw[hnx,l5 a6];unfold gz;simp
 ·have hlti:¬(k:Int)<(n:Int):=a6
  obtain rfl:k=n:=a6
  rw[l5 a6] at qc
  simp only[go_sem,q0,q4,q7,k1,hlti,q6,q6o,q2,q2g,q2o]
  refine⟨_,Fe (code:=xs) (d:=d) (n:=0) ?_,rfl⟩
  rcases qc with⟨hk0,rfl⟩|⟨hk0,rfl,qo⟩
  ·obtain rfl:xs=[]:=y8 a6
   exact .d .nsl
  ·exact qF (cells:=gz xs) (off:=0) rfl (by simp[upd,qo]) xs (fun n=>.int .u32 (n:Nat)) (fun _=>rfl) hxn (fun j a h=>by rw[C5];unfold gz;rw[w8,h];rfl) (by unfold gz;rw[j5];omega)
theorem FD (code:List Nat) (d:Nat) (hd:d≤32768):aG Tryz.prog 46 [eY (code,d)] (· = stV (Mach.start d)):=by
 refine hdR Tryz.func46 rfl [.cell 2 98] fun g=>?_
 have hdi:(d:Int)≤32768:=a6
 unfold eY
 by_cases h0:d=0
 ·subst h0
  simp only[go_sem]
  exact⟨_,mT (m:=Mach.start 0) (.d .nsl) rfl,rfl⟩
 ·have h0i:(0:Int)<(d:Int):=a6
  simp only[go_sem,h0i,hdi]
  refine⟨l0 _,a6,a6,_,mT (m:=Mach.start d) ?_ rfl,rfl⟩
  exact mj (code:=List.replicate d 0) XR XR a7
def zw:Option Nat→AV
 |some x=>.tup [iv .u32 (x:Nat),bv true]
 |none=>.tup [iv .u32 0,bv false]
theorem AR (l:List Nat) (b c:Nat) (hl:l.length≤1000000) (hc:c<65536):aG Tryz.prog 169 [.one (.d (iQ l)),iv .u32 b,iv .i64 c] (· = zw (l[(b+c)%4294967296]?)):=by
 refine hdP Tryz.func169 rfl [6,7] fun g=>?_
 have e1:=cW (n:=c) a6
 have e2:=AM b c
 have hlt:(b+c)%4294967296<4294967296:=P4 _ a8
 generalize (b+c)%4294967296=at' at e2 hlt ⊢
 have e3:=w64 (n:=at') a6
 have e4:=w64 (n:=l.length) a6
 have h0:(0:Int)≤(at':Int):=a6
 unfold iQ
 by_cases h:at'<l.length
 ·obtain⟨x,hx⟩:=getq h
  have hn:¬(l.length:Int)≤(at':Int):=a6
  have hg:(l.map fun x=>[D.int .u32 (x:Nat)])[at']? = some [.int .u32 (x:Nat)]:=by rw[w8,hx];rfl
  rw[hx]
  simp only[go_sem,e1,e2,e3,e4,hn,h0,hg,j5,zw]
 ·have hy:(l.length:Int)≤(at':Int):=a6
  rw[B9 a6]
  simp only[go_sem,e1,e2,e3,e4,hy,j5,zw]
section
def okW (w:Nat):Bool:=okI (w/16777216) (w/1048576%16) (w/65536%16) (w%65536)
def mC (w:Nat):List D:=if okW w=true then [.int .i64 (w/16777216:Nat),.int .i64 (w/1048576%16:Nat),.int .i64 (w/65536%16:Nat),.int .i64 (w%65536:Nat)] else [.int .i64 0,.int .i64 0,.int .i64 0,.int .i64 0]
theorem xx (w:Nat):(mC w).length=4:=by unfold mC;split <;> rfl
theorem Cj (w:Nat):∀x∈mC w,eQ x=x:=fun x hx=>by
 unfold mC at hx
 split at hx <;> simp only[x9,A1,E7] at hx <;> rcases hx with rfl|rfl|rfl|rfl <;> rfl
def ee (l:List Nat):List C:=l.flatMap fun w=>(mC w).map .d
def tu (l:List Nat):List C:=l.map fun w=>.d (.bool (okW w))
theorem Ck (l:List Nat):tu l=l.flatMap fun w=>([D.bool (okW w)]).map .d:=by
 unfold tu
 induction l with
 |nil=>rfl
 |cons a l ih=>simpa using ih
theorem fT:∀l:List Nat,(ee l).length=4*l.length
 |[]=>rfl
 |w::l=>by
   have ih:=fT l
   unfold ee at ih ⊢
   rw[B4,j4,j5,xx,ih];simp only[j6];omega
theorem zx (l:List Nat) (w:Nat):ee (l++[w])=ee l++(mC w).map .d:=by unfold ee;rw[J8];simp
theorem Cl (l:List Nat) (w:Nat):tu (l++[w])=tu l++[.d (.bool (okW w))]:=by unfold tu;simp
variable {pre rest:List C}
theorem Uj{p:Nat} (h:pre.length=p) (x0 x1 x2 x3 a b c d:C):((((pre++x0::x1::x2::x3::rest).set p a).set (p+1) b).set (p+1+1) c).set (p+1+1+1) d=(pre++[a,b,c,d])++rest:=by
 subst h
 rw[show pre.length+1+1=pre.length+2 from rfl,show pre.length+2+1=pre.length+3 from rfl]
 simp
theorem Uk{p:Nat} (h:pre.length=p) (x0 a:C):(pre++x0::rest).set p a=(pre++[a])++rest:=by
 subst h
 simp
def Nf (w:Nat):AV:=.tup [.agg ((mC w).map .d),iv .i64 (if okW w=true then 0 else 7)]
theorem Jg (w:Nat):AN w=Nf w:=by
 unfold AN Nf mC okW okI
 split <;> rfl
theorem Ng (code:List Nat) (d:Nat) (hl:code.length≤1000000) (hcw:∀w∈code,w<4294967296):aG Tryz.prog 108 [eY (code,d)] (· = .tup [.one (.d (.sl (code.map mC))),.one (.d (.sl (code.map fun w=>[.bool (okW w)])))]):=by
 refine hdR Tryz.func108 rfl [.tmp 2,.tmp 3] fun g=>?_
 have h0:(0:Int)≤(code.length:Int):=a6
 unfold eY dq
 simp only[go_sem,j5,h0]
 refine⟨l0 _,a6,a6,l0 _,a6,a6,?_⟩
 refine du (fun n st=>∃k:Nat,n+k=code.length∧st.f 1=.one (.ptr 1 (nxC 39 (g 1)) 0)∧st.gen 1=nxC 39 (g 1)∧st.obj 1=some [.d (.sl (code.map fun n=>[.int .u32 (n:Nat)])),.d (.int .i64 (d:Nat))]∧st.f 6=iv .i64 k∧
  st.f 4=.one (.osl 12 (st.gen 12) 4 0 code.length)∧st.obj 12=some (ee (code.take k)++(List.replicate n [C.d (.int .i64 0),.d (.int .i64 0),.d (.int .i64 0),.d (.int .i64 0)]).flatten)∧
  st.f 5=.one (.osl 16 (st.gen 16) 1 0 code.length)∧st.obj 16=some (tu (code.take k)++(List.replicate n [C.d (.bool false)]).flatten)) code.length ?_ ?_
 ·refine⟨0,rfl,?_⟩
  simp only[go_sem]
  try exact⟨rfl,rfl⟩
 rintro n f g' ob ⟨k,hk,q1,q1g,q1o,q6,q4,q4o,q5,q5o⟩
 simp only at q1 q1g q1o q6 q4 q4o q5 q5o
 have hw:=ah (k:=k) a6
 cases n with
 |zero=>
   obtain rfl:k=code.length:=a6
   have hno:¬(code.length:Int)<(code.length:Int):=a6
   rw[l5 (l0 _)] at q4o q5o
   simp only[M5,List.flatten_nil,l8] at q4o q5o
   simp only[go_sem,q1,q1g,q1o,q6,q4,q5,hno,j5]
   exact⟨_,⟨_,⟨_,_,rfl,vM (cL (cells:=ee code) rfl code mC (by simp[upd,q4o]) rfl (fun a _=>Cj a) (fun a _=>xx a) rfl),_,_,rfl,vM (cL (cells:=tu code) rfl code (fun w=>[.bool (okW w)]) (by simp[upd,q5o]) (Ck code) (fun a _ x hx=>by simp only[C7] at hx;subst hx;rfl) (fun _ _=>rfl) rfl),rfl⟩,rfl⟩,rfl⟩
 |succ m=>
   have hlt:k<code.length:=a6
   have hlti:(k:Int)<(code.length:Int):=a6
   have hk0:(0:Int)≤(k:Int):=a6
   obtain⟨w,hwk⟩:=getq hlt
   have hg:(code.map fun n=>[D.int .u32 (n:Nat)])[k]? = some [.int .u32 (w:Nat)]:=by rw[w8,hwk];rfl
   have hD:=zt w (hcw w (l6 hwk))
   rw[Jg] at hD
   have htk:code.take (k+1)=code.take k++[w]:=by rw[A2,hwk];rfl
   have htl:(code.take k).length=k:=by rw[A8];omega
   have hpl:(ee (code.take k)).length=k*4:=by rw[fT,htl];omega
   have hol:(tu (code.take k)).length=k:=by unfold tu;rw[j5,htl]
   have hs4:=fun x a b c d=>Uj (rest:=(List.replicate m [C.d (.int .i64 0),.d (.int .i64 0),.d (.int .i64 0),.d (.int .i64 0)]).flatten) hpl x x x x a b c d
   have hs1:=Uk (rest:=(List.replicate m [C.d (.bool false)]).flatten) hol (C.d (.bool false))
   rw[D4,G1] at q4o q5o
   have hi1:=zx (code.take k) w
   have ho1:=Cl (code.take k) w
   rw[←htk] at hi1 ho1
   generalize ee (code.take k)=A at q4o hpl hs4 hi1
   generalize tu (code.take k)=B at q5o hol hs1 ho1
   unfold Nf mC at hD
   unfold mC at hi1
   simp only[go_sem,q1,q1g,q1o,q6,hlti,hk0,hg,j5]
   cases hR:okW w
   ·rw[hR,if_neg a7] at hD
    rw[hR,if_neg a7] at hi1
    rw[hR] at ho1
    simp only[l7,v8,B8,A4] at hD hi1
    exact VM
   ·rw[hR,if_pos rfl] at hD
    rw[hR,if_pos rfl] at hi1
    rw[hR] at ho1
    simp only[l7,v8,A5] at hD hi1
    exact VM
end
end
section
open Go Go.Am Go.Asm Go.Mach
section
structure WC (cs:List C) (code:List Nat) (inp:Str) (m:M) (mc xc cc:C):Prop where
 len:cs.length=28
 c0:cs[0]? = some (.d (.int .i64 (m.pc:Nat)))
 rl:m.reg.length=16
 rg:∀a,a<16→cs[1+a]? = some (.d (.int .u32 (m.r a:Nat)))
 c17:cs[17]? = some (mc)
 c18:cs[18]? = some (.d (.int .i64 (m.rd:Nat)))
 c19:cs[19]? = some (.d (.str []))
 c20:cs[20]? = some (.d (.int .i64 (m.steps:Nat)))
 c21:cs[21]? = some (.d (.int .i64 (m.fin:Nat)))
 c22:cs[22]? = some (xc)
 c23:cs[23]? = some (.d (.sl (code.map mC)))
 c24:cs[24]? = some (.d (.sl (code.map fun w=>[.bool (okW w)])))
 c25:cs[25]? = some (.d (dq code))
 c26:cs[26]? = some (.d (.str inp))
 c27:cs[27]? = some (cc)
section
variable {cs:List C}{code:List Nat}{inp:Str}{m:M}{mc xc cc:C}
theorem WC.setReg (h:WC cs code inp m mc xc cc) {a:Nat} (ha:a<16) (x:Nat):WC (cs.set (1+a) (.d (.int .u32 (x:Nat)))) code inp { m with reg:=m.reg.set a x } mc xc cc:=by
 have hl:=h.len
 refine⟨by simp[h.len],by rw[ak a6];exact h.c0,by simp[h.rl],fun k hk=>?_,by rw[ak a6];exact h.c17,by rw[ak a6];exact h.c18,by rw[ak a6];exact h.c19,by rw[ak a6];exact h.c20,by rw[ak a6];exact h.c21,by rw[ak a6];exact h.c22,by rw[ak a6];exact h.c23,by rw[ak a6];exact h.c24,by rw[ak a6];exact h.c25,by rw[ak a6];exact h.c26,by rw[ak a6];exact h.c27⟩
 rw[RB h.rl ha]
 by_cases hk':k=a
 ·subst hk';rw[if_pos rfl,iJ a6]
 ·rw[if_neg hk',ak a6];exact h.rg k hk
theorem WC.setPc (h:WC cs code inp m mc xc cc) (n:Nat):WC (cs.set 0 (.d (.int .i64 (n:Nat)))) code inp { m with pc:=n } mc xc cc:=
 ⟨by simp[h.len],iJ Y0,h.rl,fun k hk=>by rw[ak a6];exact h.rg k hk,by rw[ak a6];exact h.c17,by rw[ak a6];exact h.c18,by rw[ak a6];exact h.c19,by rw[ak a6];exact h.c20,by rw[ak a6];exact h.c21,by rw[ak a6];exact h.c22,by rw[ak a6];exact h.c23,by rw[ak a6];exact h.c24,by rw[ak a6];exact h.c25,by rw[ak a6];exact h.c26,by rw[ak a6];exact h.c27⟩
theorem WC.setRd (h:WC cs code inp m mc xc cc) (n:Nat):WC (cs.set 18 (.d (.int .i64 (n:Nat)))) code inp { m with rd:=n } mc xc cc:=
 ⟨by simp[h.len],by rw[ak a6];exact h.c0,h.rl,fun k hk=>by rw[ak a6];exact h.rg k hk,by rw[ak a6];exact h.c17,iJ Y0,by rw[ak a6];exact h.c19,by rw[ak a6];exact h.c20,by rw[ak a6];exact h.c21,by rw[ak a6];exact h.c22,by rw[ak a6];exact h.c23,by rw[ak a6];exact h.c24,by rw[ak a6];exact h.c25,by rw[ak a6];exact h.c26,by rw[ak a6];exact h.c27⟩
theorem WC.setSteps (h:WC cs code inp m mc xc cc) (n:Nat):WC (cs.set 20 (.d (.int .i64 (n:Nat)))) code inp { m with steps:=n } mc xc cc:=
 ⟨by simp[h.len],by rw[ak a6];exact h.c0,h.rl,fun k hk=>by rw[ak a6];exact h.rg k hk,by rw[ak a6];exact h.c17,by rw[ak a6];exact h.c18,by rw[ak a6];exact h.c19,iJ Y0,by rw[ak a6];exact h.c21,by rw[ak a6];exact h.c22,by rw[ak a6];exact h.c23,by rw[ak a6];exact h.c24,by rw[ak a6];exact h.c25,by rw[ak a6];exact h.c26,by rw[ak a6];exact h.c27⟩
theorem WC.setFin (h:WC cs code inp m mc xc cc) (n:Nat):WC (cs.set 21 (.d (.int .i64 (n:Nat)))) code inp { m with fin:=n } mc xc cc:=
 ⟨by simp[h.len],by rw[ak a6];exact h.c0,h.rl,fun k hk=>by rw[ak a6];exact h.rg k hk,by rw[ak a6];exact h.c17,by rw[ak a6];exact h.c18,by rw[ak a6];exact h.c19,by rw[ak a6];exact h.c20,iJ Y0,by rw[ak a6];exact h.c22,by rw[ak a6];exact h.c23,by rw[ak a6];exact h.c24,by rw[ak a6];exact h.c25,by rw[ak a6];exact h.c26,by rw[ak a6];exact h.c27⟩
theorem WC.setOut (h:WC cs code inp m mc xc cc) (c:C) (o:Str):WC (cs.set 22 (c)) code inp { m with out:=o } mc c cc:=
 ⟨by simp[h.len],by rw[ak a6];exact h.c0,h.rl,fun k hk=>by rw[ak a6];exact h.rg k hk,by rw[ak a6];exact h.c17,by rw[ak a6];exact h.c18,by rw[ak a6];exact h.c19,by rw[ak a6];exact h.c20,by rw[ak a6];exact h.c21,iJ Y0,by rw[ak a6];exact h.c23,by rw[ak a6];exact h.c24,by rw[ak a6];exact h.c25,by rw[ak a6];exact h.c26,by rw[ak a6];exact h.c27⟩
end
def kD (l:List Int):List C:=l.map fun n=>.d (.int .i64 n)
structure Wn (gr:Nat) (code:List Nat) (inp:Str) (m:M) (g:Nat→Nat) (ob:Obs):Prop where
 gen:g 13=gr
 obj:∃cs mi xc cnt,ob 13=some cs∧WC cs code inp m (.osl mi (g mi) 1 0 m.mem.length) xc (.osl 47 (g 47) 1 0 code.length)∧(mi=24∨mi=27)∧ob mi=some (gz m.mem)∧ob 47=some (kD cnt)∧cnt.length=code.length∧
  (xc=.osl 38 (g 38) 1 0 m.out.length∧ob 38=some (jW m.out))
end
end
section
attribute [local congr] Go.Am.ite_cc
open Go Go.Am Go.Asm Go.Mach
section
def FrW (g:Nat→Nat) (ob:Obs) (g':Nat→Nat) (ob':Obs):Prop:=∀i,i<3000→i≠13→i≠24→i≠27→i≠47→i≠38→g' i=g i∧ob' i=ob i
variable {gr:Nat}{code:List Nat}{inp:Str}{g g':Nat→Nat}{ob ob':Obs}{m:M}
theorem Wn.cells{m m':M} (h:Wn gr code inp m g ob) {cs':List C} (hg:∀i,(i=13∨i=24∨i=27∨i=47∨i=38)→g' i=g i) (ho:∀i,(i=24∨i=27∨i=47∨i=38)→ob' i=ob i)
  (hc:ob' 13=some cs') (hm:m'.mem=m.mem) (hx:m'.out=m.out) (hr:∀cs mc xc cc,ob 13=some cs→WC cs code inp m mc xc cc→WC cs' code inp m' mc xc cc):Wn gr code inp m' g' ob':=by
 obtain⟨h1,cs,mi,xc,cnt,h2,h3,h4,h5,h6,h7,h8⟩:=h
 have hmi:g' mi=g mi∧ob' mi=ob mi:=⟨hg mi a6,ho mi a6⟩
 refine⟨by rw[hg 13 a8];exact h1,cs',mi,xc,cnt,hc,?_,h4,by rw[hmi.2,hm];exact h5,by rw[ho 47 a8];exact h6,h7,by rw[hg 38 a8,ho 38 a8,hx];exact h8⟩
 rw[hmi.1,hm,hg 47 a8]
 exact hr cs _ _ _ h2 h3
theorem Wn.same (h:Wn gr code inp m g ob) (hg:∀i,(i=13∨i=24∨i=27∨i=47∨i=38)→g' i=g i) (ho:∀i,(i=13∨i=24∨i=27∨i=47∨i=38)→ob' i=ob i):Wn gr code inp m g' ob':=by
 obtain⟨cs,_,_,_,h2,_⟩:=id h.obj
 exact h.cells (cs':=cs) hg (fun i hi=>ho i a6) (by rw[ho 13 a8];exact h2) rfl rfl fun cs2 _ _ _ e r=>by rw[h2] at e;cases e;exact r
theorem Wn.done{m m':M}{cs cs':List C} (h:Wn gr code inp m g ob) (ho:ob 13=some cs) (hg':∀i,(i<3000∨i=38)→g' i=g i) (ho':∀i,(i≠13∧(i<3000∨i=38))→ob' i=ob i)
  (hc:ob' 13=some cs') (hm:m'.mem=m.mem) (hx:m'.out=m.out) (hr:∀mc xc cc,WC cs code inp m mc xc cc→WC cs' code inp m' mc xc cc):FrW g ob g' ob'∧Wn gr code inp m' g' ob':=
 ⟨fun i hi h13 _ _ _ _=>⟨hg' i (.inl hi),ho' i ⟨h13,.inl hi⟩⟩,h.cells (fun i hi=>hg' i a6) (fun i hi=>ho' i a6) hc hm hx fun cs2 mc xc cc e r=>by rw[ho] at e;cases e;exact hr mc xc cc r⟩
theorem KG{g:Nat→Nat}{ob:Obs} (h:Wn gr code inp m g ob) (a x:Nat) (ha:a<16) (hpc:m.pc≤4294967296000000) :
  fg Tryz.prog 168 [.one (.ptr 13 gr 0),iv .i64 a,iv .u32 x] g ob (fun _ g' ob'=>FrW g ob g' ob'∧Wn gr code inp (m.set a x) g' ob'):=by
 refine hdF 4000 Tryz.func168 rfl [] ?_
 obtain⟨hg,cs,mi,xc,cnt,ho,hr,-⟩:=id h
 have hws:=ah (k:=m.pc) a6
 have hl:=hr.len
 have ha0:(0:Int)≤(a:Int):=a6
 have hset:(cs.set (1+a) (.d (.int .u32 (x:Nat))))[0]? = some (.d (.int .i64 (m.pc:Nat))):=by rw[ak a6];exact hr.c0
 simp only[go_sem,hg,ho,ha0,hset,hws]
 refine⟨a6,a6,?_⟩
 exact⟨by simp only[C6];omega,aV (.inr rfl) (h.done ho (fun i hi=>by (try simp only[upd]);repeat (rw[if_neg (by omega)]);try rfl) (fun i hi=>by (try simp only[upd]);repeat (rw[if_neg (by omega)]);try rfl) (by simp[upd] <;> rfl) rfl rfl fun _ _ _ hr=>(hr.setReg ha x).setPc (m.pc+1))⟩
theorem MX{g:Nat→Nat}{ob:Obs} (h:Wn gr code inp m g ob) (b:Bool) (c:Nat) (hpc:m.pc≤4294967296000000) :
  fg Tryz.prog 170 [.one (.ptr 13 gr 0),bv b,iv .i64 c] g ob (fun _ g' ob'=>FrW g ob g' ob'∧Wn gr code inp { m with pc:=if b=true then c else m.pc+1 } g' ob'):=by
 refine hdF 4000 Tryz.func170 rfl [] ?_
 obtain⟨hg,cs,mi,xc,cnt,ho,hr,-⟩:=id h
 have hws:=ah (k:=m.pc) a6
 have hl:=hr.len
 cases b
 ·simp only[go_sem,hg,ho,hr.c0,hws]
  exact⟨a6,aV (.inr rfl) (h.done ho (fun i hi=>by (try simp only[upd]);repeat (rw[if_neg (by omega)]);try rfl) (fun i hi=>by (try simp only[upd]);repeat (rw[if_neg (by omega)]);try rfl) (by simp[upd] <;> rfl) rfl rfl fun _ _ _ hr=>hr.setPc (m.pc+1))⟩
 ·simp only[go_sem,hg,ho]
  exact⟨a6,aV (.inr rfl) (h.done ho (fun i hi=>by (try simp only[upd]);repeat (rw[if_neg (by omega)]);try rfl) (fun i hi=>by (try simp only[upd]);repeat (rw[if_neg (by omega)]);try rfl) (by simp[upd] <;> rfl) rfl rfl fun _ _ _ hr=>hr.setPc c)⟩
end
theorem FrW.from {g g':Nat→Nat}{ob ob1 ob':Obs}{P:Prop} (h:FrW g ob1 g' ob'∧P) (hfr:∀i,i≠13→i≠47→ob1 i=ob i):FrW g ob g' ob'∧P:=
 ⟨fun i a b c d e f=>⟨(h.1 i a b c d e f).1,(h.1 i a b c d e f).2.trans (hfr i b e)⟩,h.2⟩
theorem MY {gr:Nat}{code:List Nat}{inp:Str}{m:M}{g:Nat→Nat}{ob:Obs} (h:Wn gr code inp m g ob) (hcw:∀x∈code,x<4294967296) (hg9:Mach.Good m) (hml:m.mem.length≤1000000) (hcl:code.length≤1000000) (hst:m.steps<1000000000000) (hrd:m.rd≤1000000000000) (hf:m.fin=0) :
  fg Tryz.prog 109 [.one (.ptr 13 gr 0)] g ob (fun _ g' ob'=>FrW g ob g' ob'∧Wn gr code inp (kE okI code inp m) g' ob'):=by
 refine hdF 3000 Tryz.func109 rfl [] ?_
 obtain⟨hg,cs,mi,xc,cnt,ho,hr,hmi,hmo,hco,hcn,hmore⟩:=id h
 have hl:=hr.len
 have hp0:¬(m.pc:Int)<0:=a6
 have hp00:(0:Int)≤(m.pc:Int):=a6
 have hws:=ah (k:=m.steps) a6
 simp only[go_sem]
 refine bc b9 ?_
 by_cases hlt:m.pc<code.length
 case neg=>
  have hle:(code.length:Int)≤(m.pc:Int):=a6
  rw[show kE okI code inp m = { m with fin:=7 } by unfold kE;rw[B9 a6]]
  simp only[go_sem,hg,ho,hr.c0,hr.c23,hp0,j5,hle]
  exact⟨a6,aV (.inl rfl) (h.done ho (fun i hi=>by (try simp only[upd]);repeat (rw[if_neg (by omega)]);try rfl) (fun i hi=>by (try simp only[upd]);repeat (rw[if_neg (by omega)]);try rfl) (by simp[upd] <;> rfl) rfl rfl fun _ _ _ hr=>hr.setFin 7)⟩
 have hle:¬(code.length:Int)≤(m.pc:Int):=a6
 obtain⟨w,hw⟩:=getq hlt
 have hwlt:=hcw w (l6 hw)
 simp only[go_sem,hg,ho,hr.c0,hr.c23,hr.c20,hp0,j5,hle,hws]
 refine⟨a6,?_⟩
 refine bc b9 ?_
 have hr1:=hr.setSteps (m.steps+1)
 generalize hcs1:cs.set 20 (.d (.int .i64 (m.steps+1:Nat)))=cs1 at hr1 ⊢
 have hl1:=hr1.len
 obtain⟨n0,hn0⟩:=getq (l:=cnt) (k:=m.pc) a6
 have hcg:(kD cnt)[m.pc]? = some (.d (.int .i64 n0)):=by unfold kD;rw[w8,hn0];rfl
 have hcl2:(kD cnt).length=code.length:=by unfold kD;rw[j5,hcn]
 have hc0:=hr1.c0
 have hc27:=hr1.c27
 simp only[go_sem,hg,hc0,hc27,hco,hp00,C5,K8,hcg]
 refine⟨hlt,hlt,a6,?_⟩
 have h1:Wn gr code inp { m with steps:=m.steps+1 } g (upd (upd ob 13 (some cs1)) 47 (some ((kD cnt).set m.pc (.d (.int .i64 (IntKind.i64.wrap (n0+1))))))):=
  ⟨hg,cs1,mi,xc,cnt.set m.pc (IntKind.i64.wrap (n0+1)),by simp[upd],hr1,hmi,by rcases hmi with rfl|rfl <;> simpa[upd] using hmo,by simp[upd,kD,S7],by rw[C6,hcn],by simpa[upd] using hmore⟩
 have hfr:∀i,i≠13→i≠47→(upd (upd ob 13 (some cs1)) 47 (some ((kD cnt).set m.pc (.d (.int .i64 (IntKind.i64.wrap (n0+1))))))) i=ob i:=fun i a b=>by simp only[upd];rw[if_neg b,if_neg a]
 have ho1:(upd (upd ob 13 (some cs1)) 47 (some ((kD cnt).set m.pc (.d (.int .i64 (IntKind.i64.wrap (n0+1))))))) 13=some cs1:=by simp[upd]
 have hmo1:(upd (upd ob 13 (some cs1)) 47 (some ((kD cnt).set m.pc (.d (.int .i64 (IntKind.i64.wrap (n0+1))))))) mi=some (gz m.mem):=by rcases hmi with rfl|rfl <;> simpa[upd] using hmo
 have hmore1:xc=.osl 38 (g 38) 1 0 m.out.length∧(upd (upd ob 13 (some cs1)) 47 (some ((kD cnt).set m.pc (.d (.int .i64 (IntKind.i64.wrap (n0+1))))))) 38=some (jW m.out):=by simpa[upd] using hmore
 obtain⟨cnt1,hco1,hcn1⟩:∃cnt1,(upd (upd ob 13 (some cs1)) 47 (some ((kD cnt).set m.pc (.d (.int .i64 (IntKind.i64.wrap (n0+1))))))) 47=some (kD cnt1)∧cnt1.length=code.length:=⟨cnt.set m.pc (IntKind.i64.wrap (n0+1)),by simp[upd,kD,S7],by rw[C6,hcn]⟩
 generalize upd (upd ob 13 (some cs1)) 47 (some ((kD cnt).set m.pc (.d (.int .i64 (IntKind.i64.wrap (n0+1))))))=ob1 at h1 hfr ho1 hmo1 hmore1 hco1 ⊢
 have hg1:Mach.Good { m with steps:=m.steps+1 }:=⟨hg9.len,hg9.reg,hg9.mem,by have:=hg9.pc;show m.pc≤4294967296+(m.steps+1);omega,hg9.out,hg9.fin⟩
 have hs:kE okI code inp m=if okW w=true then doM code inp { m with steps:=m.steps+1 } (w/16777216) (w/1048576%16) (w/65536%16) (w%65536) else { m with steps:=m.steps+1,fin:=6 }:=by
  unfold kE okW;rw[hw]
 rw[hs]
 have hci:mC w=mC w:=rfl
 conv at hci=>rhs;unfold mC
 have hc23:=hr1.c23
 have hc24:=hr1.c24
 clear hcs1 hs hcg hco hcn hn0 hcl2 hr hmore hmo ho
 refine dK aB mixed [3002] [([0],[0],[],false),([56],[0],[],false),([57],[0],[],false),([58],[0],[],false),([0],[0],[],false),([60],[0],[],false),([61],[0],[],false),([62],[0],[],false),([63],[0],[],false),([59,64],[0],[],false),([65],[0],[],false),([],[],[0],false),([2,66],[],[],true)] 1 b9 rfl a8 ?_
 simp only[go_sem]
 cases hR:okW w
 ·rw[hR,if_neg a7] at hci
  rw[if_neg a7]
  iterate 9 (apply aw;· (intro fa ga oa K' hK;simp only[go_sem,hg,ho1,hc0,hc23] at hK ⊢;exact hK))
  iterate 2 (apply aw;· (intro fa ga oa K' hK;simp only[go_sem,hp00,hw,x8,hci] at hK ⊢;exact hK))
  (apply bJ;· (intro fa ga oa K' hK;simp only[go_sem] at hK ⊢;exact hK))
  apply bG
  intro K' hK'
  simp only[go_sem]
  refine hK' _ ?_
  clear hK' K'
  simp only[go_sem]
  refine bc b9 ?_
  simp only[go_sem,hg,ho1,hc0,hc24,hp00,hw,x8,hR]
  exact⟨a6,aV (.inl rfl) (FrW.from (h1.done (m':={ m with steps:=m.steps+1,fin:=6 }) ho1 (fun i hi=>by (try simp only[upd]);repeat (rw[if_neg (by omega)]);try rfl) (fun i hi=>by (try simp only[upd]);repeat (rw[if_neg (by omega)]);try rfl) (by simp[upd] <;> rfl) rfl rfl fun _ _ _ hr=>hr.setFin 6) hfr)⟩
 ·rw[hR,if_pos rfl] at hci
  rw[if_pos rfl]
  obtain⟨p1,p2,p3⟩:=Cc (show okI (w/16777216) (w/1048576%16) (w/65536%16) (w%65536)=true from hR)
  have ha:w/1048576%16<16:=a6
  have hb:w/65536%16<16:=a6
  have hc:w%65536<65536:=a6
  generalize w/16777216=op at hci p1 p2 p3 ⊢
  generalize w/1048576%16=a at hci p3 ha ⊢
  generalize w/65536%16=b at hci p3 hb ⊢
  generalize w%65536=c at hci p3 hc ⊢
  iterate 9 (apply aw;· (intro fa ga oa K' hK;simp only[go_sem,hg,ho1,hc0,hc23] at hK ⊢;exact hK))
  iterate 2 (apply aw;· (intro fa ga oa K' hK;simp only[go_sem,hp00,hw,x8,hci] at hK ⊢;exact hK))
  (apply bJ;· (intro fa ga oa K' hK;simp only[go_sem] at hK ⊢;exact hK))
  apply bG
  intro K' hK'
  simp only[go_sem]
  refine hK' _ ?_
  clear hK' K'
  simp only[go_sem]
  refine bc b9 ?_
  simp only[go_sem,hg,ho1,hc0,hc24,hp00,hw,x8,hR]
  refine bc b9 ?_
  have ra:=hr1.rg a ha
  have ha0:(0:Int)≤(a:Int):=a6
  have rb:=hr1.rg b hb
  have hb0:(0:Int)≤(b:Int):=a6
  have hpc:m.pc≤4294967296000000:=by have:=hg9.pc;omega
  have rlt:=hg9.r a
  have rblt:=hg9.r b
  have hset:=fun g2 ob2 (h2:Wn gr code inp { m with steps:=m.steps+1 } g2 ob2) (x:Nat)=>KG h2 a x ha hpc
  have hjump:=fun g2 ob2 (h2:Wn gr code inp { m with steps:=m.steps+1 } g2 ob2) (y:Bool)=>MX h2 y c hpc
  have hwc:IntKind.u32.wrap ((c:Nat):Int)=((c:Nat):Int):=cW a6
  change cs1[1+a]? = some (.d (.int .u32 (m.r a:Nat))) at ra
  change cs1[1+b]? = some (.d (.int .u32 (m.r b:Nat))) at rb
  have fin:∀{g2:Nat→Nat}{ob2:Obs}{m':M}{g':Nat→Nat}{ob':Obs},(∀i,i<3000→g2 i=g i)→(∀i,i<3000→ob2 i=ob1 i)→FrW g2 ob2 g' ob'→Wn gr code inp m' g' ob'→FrW g ob g' ob'∧Wn gr code inp m' g' ob':=fun e1 e2 f1 f2=>
   FrW.from (ob1:=ob1) ⟨fun i hi h13 h24 h27 h47 h38=>by have:=f1 i hi h13 h24 h27 h47 h38;rw[e1 i hi,e2 i hi] at this;exact this,f2⟩ hfr
  by_cases o1:op=1
  ·subst o1
   rw[show doM code inp { m with steps:=m.steps+1 } 1 a b c=({ m with steps:=m.steps+1 }:M).set a c from rfl]
   simp only[go_sem,hg,ho1,ra,ha0,hwc]
   refine⟨a6,?_⟩
   refine bp rfl (by simp only[go_sem];exact hset _ _ (h1.same (fun i hi=>by (try simp only[upd]);repeat (rw[if_neg (by omega)]);try rfl) (fun i hi=>by (try simp only[upd]);repeat (rw[if_neg (by omega)]);try rfl)) c) ?_
   exact U7
  by_cases o2:op=2
  ·subst o2
   rw[show doM code inp { m with steps:=m.steps+1 } 2 a b c=({ m with steps:=m.steps+1 }:M).set a (m.r a%65536+c*65536) from rfl]
   have e1:((m.r a:Nat):Int).tmod 65536=((m.r a%65536:Nat):Int):=rfl
   have e2:IntKind.u32.wrap ((c:Int)*65536)=((c*65536:Nat):Int):=by rw[IntKind.wrap_u32];omega
   have e3:IntKind.u32.wrap (((m.r a%65536:Nat):Int)+((c*65536:Nat):Int))=((m.r a%65536+c*65536:Nat):Int):=by rw[IntKind.wrap_u32];omega
   have e4:IntKind.u32.wrap ((m.r a%65536:Nat):Int)=((m.r a%65536:Nat):Int):=cW a6
   simp only[go_sem,hg,ho1,ra,ha0,hwc,e1,e2,e3,e4]
   refine⟨a6,?_⟩
   refine bp rfl (by simp only[go_sem];exact hset _ _ (h1.same (fun i hi=>by (try simp only[upd]);repeat (rw[if_neg (by omega)]);try rfl) (fun i hi=>by (try simp only[upd]);repeat (rw[if_neg (by omega)]);try rfl)) (m.r a%65536+c*65536)) ?_
   exact U7
  by_cases o3:op=3
  ·subst o3
   rw[show doM code inp { m with steps:=m.steps+1 } 3 a b c=({ m with steps:=m.steps+1 }:M).set a (m.r b) from rfl]
   simp only[go_sem,hg,ho1,ra,ha0]
   refine⟨a6,?_⟩
   refine bc b9 ?_
   simp only[go_sem,hg,ho1,rb,hb0]
   refine⟨a6,?_⟩
   refine bp rfl (by simp only[go_sem];exact hset _ _ (h1.same (fun i hi=>by (try simp only[upd]);repeat (rw[if_neg (by omega)]);try rfl) (fun i hi=>by (try simp only[upd]);repeat (rw[if_neg (by omega)]);try rfl)) (m.r b)) ?_
   exact U7
  by_cases o18:op=18
  ·subst o18
   rw[show doM code inp { m with steps:=m.steps+1 } 18 a b c = { m with steps:=m.steps+1,pc:=c } from rfl]
   simp only[go_sem,hg,ho1,ra,ha0]
   exact⟨a6,a6,aV (.inr rfl) (FrW.from (h1.done (m':={ m with steps:=m.steps+1,pc:=c }) ho1 (fun i hi=>by (try simp only[upd]);repeat (rw[if_neg (by omega)]);try rfl) (fun i hi=>by (try simp only[upd]);repeat (rw[if_neg (by omega)]);try rfl) (by simp[upd] <;> rfl) rfl rfl fun _ _ _ hr=>hr.setPc c) hfr)⟩
  by_cases o19:op=19
  ·subst o19
   rw[show doM code inp { m with steps:=m.steps+1 } 19 a b c = { m with steps:=m.steps+1,pc:=if m.r a=0 then c else m.pc+1 } from rfl]
   by_cases hz:m.r a=0
   ·have hzi:((m.r a:Nat):Int)=0:=a6
    rw[if_pos hz]
    exact VW
   ·have hzi:¬((m.r a:Nat):Int)=0:=a6
    rw[if_neg hz]
    exact VV
  by_cases o20:op=20
  ·subst o20
   rw[show doM code inp { m with steps:=m.steps+1 } 20 a b c = { m with steps:=m.steps+1,pc:=if m.r a=0 then m.pc+1 else c } from rfl]
   by_cases hz:m.r a=0
   ·have hzi:((m.r a:Nat):Int)=0:=a6
    rw[if_pos hz]
    exact VV
   ·have hzi:¬((m.r a:Nat):Int)=0:=a6
    rw[if_neg hz]
    exact VW
  by_cases o22:op=22
  ·subst o22
   rw[show doM code inp { m with steps:=m.steps+1 } 22 a b c = { m with steps:=m.steps+1,pc:=m.r a } from rfl]
   have hwr:IntKind.i64.wrap ((m.r a:Nat):Int)=((m.r a:Nat):Int):=by rw[wrap_i64] <;> omega
   simp only[go_sem,hg,ho1,ra,ha0,hwr]
   exact⟨a6,a6,aV (.inr rfl) (FrW.from (h1.done (m':={ m with steps:=m.steps+1,pc:=m.r a }) ho1 (fun i hi=>by (try simp only[upd]);repeat (rw[if_neg (by omega)]);try rfl) (fun i hi=>by (try simp only[upd]);repeat (rw[if_neg (by omega)]);try rfl) (by simp[upd] <;> rfl) rfl rfl fun _ _ _ hr=>hr.setPc (m.r a)) hfr)⟩
  by_cases o26:op=26
  ·subst o26
   rw[show doM code inp { m with steps:=m.steps+1 } 26 a b c = { m with steps:=m.steps+1,fin:=1 } from rfl]
   simp only[go_sem,hg,ho1,ra,ha0]
   exact⟨a6,a6,aV (.inr rfl) (FrW.from (h1.done (m':={ m with steps:=m.steps+1,fin:=1 }) ho1 (fun i hi=>by (try simp only[upd]);repeat (rw[if_neg (by omega)]);try rfl) (fun i hi=>by (try simp only[upd]);repeat (rw[if_neg (by omega)]);try rfl) (by simp[upd] <;> rfl) rfl rfl fun _ _ _ hr=>hr.setFin 1) hfr)⟩
  by_cases o25:op=25
  ·subst o25
   rw[show doM code inp { m with steps:=m.steps+1 } 25 a b c=(if c≤m.r a then({ m with steps:=m.steps+1,fin:=3 }:M) else { m with steps:=m.steps+1,pc:=m.pc+1 }) from rfl]
   have hwp:=ah (k:=m.pc) a6
   by_cases hz:c≤m.r a
   ·have hzi:((c:Nat):Int)≤((m.r a:Nat):Int):=a6
    rw[if_pos hz]
    simp only[go_sem,hg,ho1,ra,ha0,hwc,hzi]
    exact⟨a6,a6,aV (.inl rfl) (FrW.from (h1.done (m':={ m with steps:=m.steps+1,fin:=3 }) ho1 (fun i hi=>by (try simp only[upd]);repeat (rw[if_neg (by omega)]);try rfl) (fun i hi=>by (try simp only[upd]);repeat (rw[if_neg (by omega)]);try rfl) (by simp[upd] <;> rfl) rfl rfl fun _ _ _ hr=>hr.setFin 3) hfr)⟩
   ·have hzi:¬((c:Nat):Int)≤((m.r a:Nat):Int):=a6
    rw[if_neg hz]
    simp only[go_sem,hg,ho1,ra,ha0,hwc,hzi,hc0,hwp]
    exact⟨a6,a6,aV (.inr rfl) (FrW.from (h1.done (m':={ m with steps:=m.steps+1,pc:=m.pc+1 }) ho1 (fun i hi=>by (try simp only[upd]);repeat (rw[if_neg (by omega)]);try rfl) (fun i hi=>by (try simp only[upd]);repeat (rw[if_neg (by omega)]);try rfl) (by simp[upd] <;> rfl) rfl rfl fun _ _ _ hr=>hr.setPc (m.pc+1)) hfr)⟩
  by_cases o21:op=21
  ·subst o21
   rw[show doM code inp { m with steps:=m.steps+1 } 21 a b c = { m with steps:=m.steps+1,reg:=m.reg.set a ((m.pc+1)%4294967296),pc:=c } from rfl]
   have e1:IntKind.u32.wrap ((m.pc:Nat):Int)=((m.pc%4294967296:Nat):Int):=w32 _
   have e2:IntKind.u32.wrap (((m.pc%4294967296:Nat):Int)+1)=(((m.pc+1)%4294967296:Nat):Int):=by rw[IntKind.wrap_u32];omega
   simp only[go_sem,hg,ho1,ra,ha0]
   refine⟨a6,?_⟩
   refine bc b9 ?_
   simp only[go_sem,hg,ho1,hc0,ha0,e1,e2]
   refine⟨a6,a6,?_⟩
   exact⟨by simp only[C6];omega,aV (.inr rfl) (FrW.from (h1.done (m':={ m with steps:=m.steps+1,reg:=m.reg.set a ((m.pc+1)%4294967296),pc:=c }) ho1 (fun i hi=>by (try simp only[upd]);repeat (rw[if_neg (by omega)]);try rfl) (fun i hi=>by (try simp only[upd]);repeat (rw[if_neg (by omega)]);try rfl) (by simp[upd] <;> rfl) rfl rfl fun _ _ _ hr=>(hr.setReg ha _).setPc c) hfr)⟩
  by_cases o23:op=23
  ·subst o23
   have hrd0:¬(m.rd:Int)<0:=a6
   have hrd00:(0:Int)≤(m.rd:Int):=a6
   have hwrd:=ah (k:=m.rd) a6
   have hc18:=hr1.c18
   have hc26:=hr1.c26
   cases hx:inp[m.rd]? with
   |none=>
     have hle':(inp.length:Int)≤(m.rd:Int):=by have:=T3.1 hx;omega
     rw[show doM code inp { m with steps:=m.steps+1 } 23 a b c=({ m with steps:=m.steps+1 }:M).set a 256 by show (match inp[m.rd]? with|some x=>_|none=>_)=_;rw[hx]]
     simp only[go_sem,hg,ho1,ra,ha0]
     refine⟨a6,?_⟩
     refine bc b9 ?_
     simp only[go_sem,hg,ho1,hc18,hc26,hrd0,hle']
     refine bp rfl (by simp only[go_sem];exact hset _ _ (h1.same (fun i hi=>by (try simp only[upd]);repeat (rw[if_neg (by omega)]);try rfl) (fun i hi=>by (try simp only[upd]);repeat (rw[if_neg (by omega)]);try rfl)) 256) ?_
     rintro r g' ob' ⟨f1,f2⟩
     simp only[go_sem]
     exact aV (.inl rfl) (fin (fun i hi=>by (try simp only[upd]);repeat (rw[if_neg (by omega)]);try rfl) (fun i hi=>by (try simp only[upd]);repeat (rw[if_neg (by omega)]);try rfl) f1 f2)
   |some x=>
     have hltx:=(l4.1 hx).1
     have hle':¬(inp.length:Int)≤(m.rd:Int):=a6
     have hx8:=x.toNat_lt
     rw[show doM code inp { m with steps:=m.steps+1 } 23 a b c=({ m with steps:=m.steps+1,rd:=m.rd+1 }:M).set a x.toNat by show (match inp[m.rd]? with|some x=>_|none=>_)=_;rw[hx];rfl]
     simp only[go_sem,hg,ho1,ra,ha0]
     refine⟨a6,?_⟩
     refine bc b9 ?_
     simp only[go_sem,hg,ho1,hc18,hc26,hrd0,hle']
     refine bc b9 ?_
     simp only[go_sem,hg,ho1,hc18,hc26,hrd00,hx,hwrd,cW (show x.toNat<4294967296 by omega)]
     refine⟨a6,?_⟩
     refine bp rfl (by simp only[go_sem];exact KG (m:={ m with steps:=m.steps+1,rd:=m.rd+1 }) ((h1.done (m':={ m with steps:=m.steps+1,rd:=m.rd+1 }) ho1 (fun i hi=>by (try simp only[upd]);repeat (rw[if_neg (by omega)]);try rfl) (fun i hi=>by (try simp only[upd]);repeat (rw[if_neg (by omega)]);try rfl) (by simp[upd] <;> rfl) rfl rfl fun _ _ _ hr=>hr.setRd (m.rd+1)).2) a x.toNat ha hpc) ?_
     rintro r g' ob' ⟨f1,f2⟩
     simp only[go_sem]
     refine aV (.inr rfl) (FrW.from (ob1:=ob1) ⟨fun i hi h13 h24 h27 h47 h38=>?_,f2⟩ hfr)
     have:=f1 i hi h13 h24 h27 h47 h38
     simp only[upd] at this
     repeat rw[if_neg (by omega)] at this
     exact this
  by_cases o16:op=16
  ·subst o16
   have hc17:=hr1.c17
   have hF:=AR m.mem (m.r b) c hml hc
   have hmi2:mi≠13∧mi≠3002:=a6
   simp only[go_sem,hg,ho1,ra,ha0]
   refine⟨a6,?_⟩
   simp only[go_sem,hg,ho1,hc17]
   refine eR aB mixed b9 ?_
   simp only[go_sem,hg,ho1,rb,hb0]
   refine⟨a6,?_⟩
   have hfz:∀{s:St} (x y:D),s.gen mi=g mi→s.obj mi=some (gz m.mem)→cG s [.one (.osl mi (g mi) 1 0 m.mem.length),.one (.d x),.one (.d y)] [.one (.d (iQ m.mem)),.one (.d (eQ x)),.one (.d (eQ y))]:=fun x y e1 e2=>
    Nj (vM (qF (cells:=gz m.mem) (off:=0) e1 e2 m.mem (fun n=>.int .u32 (n:Nat)) (fun _=>rfl) rfl (fun j a h=>by rw[C5];unfold gz;rw[w8,h];rfl) (by unfold gz;rw[j5];omega))) (eN _) (eN _)
   have e1:∀(x:Nat),(upd g 3002 x) mi=g mi:=fun x=>by simp only[upd];rw[if_neg hmi2.2]
   cases hx:m.mem[(m.r b+c)%4294967296]? with
   |none=>
     rw[hx] at hF
     unfold zw at hF
     rw[show doM code inp { m with steps:=m.steps+1 } 16 a b c = { m with steps:=m.steps+1,fin:=8 } by show (match m.mem[(m.r b+c)%4294967296]? with|some x=>_|none=>_)=_;rw[hx]]
     refine bT rfl hF YG rfl ?_
     exact VS
   |some x=>
     rw[hx] at hF
     unfold zw at hF
     rw[show doM code inp { m with steps:=m.steps+1 } 16 a b c=({ m with steps:=m.steps+1 }:M).set a x by show (match m.mem[(m.r b+c)%4294967296]? with|some x=>_|none=>_)=_;rw[hx]]
     refine bT rfl hF YG rfl ?_
     exact Vv
  by_cases o27:op=27
  ·subst o27
   have hc17:=hr1.c17
   have hc25:=hr1.c25
   have hF:=AR code (m.r b) c hcl hc
   unfold dq at hc25
   unfold iQ at hF
   simp only[go_sem,hg,ho1,ra,ha0]
   refine⟨a6,?_⟩
   simp only[go_sem,hg,ho1,hc17,hc25]
   refine eR aB mixed b9 ?_
   simp only[go_sem,hg,ho1,rb,hb0]
   refine⟨a6,?_⟩
   cases hx:code[(m.r b+c)%4294967296]? with
   |none=>
     rw[hx] at hF
     unfold zw at hF
     rw[show doM code inp { m with steps:=m.steps+1 } 27 a b c = { m with steps:=m.steps+1,fin:=8 } by show (match code[(m.r b+c)%4294967296]? with|some x=>_|none=>_)=_;rw[hx]]
     refine bT rfl hF (cg rfl) rfl ?_
     exact VS
   |some x=>
     rw[hx] at hF
     unfold zw at hF
     rw[show doM code inp { m with steps:=m.steps+1 } 27 a b c=({ m with steps:=m.steps+1 }:M).set a x by show (match code[(m.r b+c)%4294967296]? with|some x=>_|none=>_)=_;rw[hx]]
     refine bT rfl hF (cg rfl) rfl ?_
     exact Vv
  have hwpc:=ah (k:=m.pc) a6
  by_cases h415:4≤op∧op≤15
  ·have hc16:=p3 h415
   have rc:=hr1.rg c hc16
   change cs1[1+c]? = some (.d (.int .u32 (m.r c:Nat))) at rc
   have hcz:(0:Int)≤(c:Int):=a6
   have hA:=FC op (m.r b) (m.r c) h415.1 h415.2 (hg9.r b) (hg9.r c)
   have hD:doM code inp { m with steps:=m.steps+1 } op a b c=match applyN op (m.r b) (m.r c) with|some x=>({ m with steps:=m.steps+1 }:M).set a x|none=>{ m with steps:=m.steps+1,fin:=2 }:=by
    obtain rfl|rfl|rfl|rfl|rfl|rfl|rfl|rfl|rfl|rfl|rfl|rfl:op=4∨op=5∨op=6∨op=7∨op=8∨op=9∨op=10∨op=11∨op=12∨op=13∨op=14∨op=15:=a6
    all_goals rfl
   rw[hD]
   clear hD
   generalize applyN op (m.r b) (m.r c)=res at hA ⊢
   unfold MD at hA
   have k1:¬(op:Int)=1:=a6
   have k2:¬(op:Int)=2:=a6
   have k3:¬(op:Int)=3:=a6
   have k16:¬(op:Int)=16:=a6
   have k17:¬(op:Int)=17:=a6
   have k18:¬(op:Int)=18:=a6
   have k19:¬(op:Int)=19:=a6
   have k20:¬(op:Int)=20:=a6
   have k21:¬(op:Int)=21:=a6
   have k22:¬(op:Int)=22:=a6
   have k23:¬(op:Int)=23:=a6
   have k24:¬(op:Int)=24:=a6
   have k25:¬(op:Int)=25:=a6
   have k26:¬(op:Int)=26:=a6
   have k27:¬(op:Int)=27:=a6
   simp only[go_sem,hg,ho1,ra,ha0,k1,k2,k3,k16,k17,k18,k19,k20,k21,k22,k23,k24,k25,k26,k27]
   refine⟨a6,?_⟩
   refine eR aB mixed b9 ?_
   simp only[go_sem,hg,ho1,rb,rc,hb0,hcz]
   refine⟨a6,a6,?_⟩
   cases res with
   |none=>
     refine bT rfl hA (cg rfl) rfl ?_
     simp only[go_sem,hg,ho1]
     exact⟨a6,aV (.inl rfl) (FrW.from (h1.done (m':={ m with steps:=m.steps+1,fin:=2 }) ho1 (fun i hi=>by (try simp only[upd]);repeat (rw[if_neg (by omega)]);try rfl) (fun i hi=>by (try simp only[upd]);repeat (rw[if_neg (by omega)]);try rfl) (by simp[upd] <;> rfl) rfl rfl fun _ _ _ hr=>hr.setFin 2) hfr)⟩
   |some x=>
     refine bT rfl hA (cg rfl) rfl ?_
     exact Vv
  by_cases o17:op=17
  ·subst o17
   have hc17:=hr1.c17
   have hmi2:mi≠13∧mi≠3002∧mi≠47∧mi≠38:=a6
   have e2:=AM (m.r b) c
   have hat:(m.r b+c)%4294967296<4294967296:=P4 _ a8
   rw[show doM code inp { m with steps:=m.steps+1 } 17 a b c=(if (m.r b+c)%4294967296<m.mem.length then({ m with steps:=m.steps+1,mem:=m.mem.set ((m.r b+c)%4294967296) (m.r a),pc:=m.pc+1 }:M) else { m with steps:=m.steps+1,fin:=8 }) from rfl]
   generalize (m.r b+c)%4294967296=at' at e2 hat ⊢
   have e3:=w64 (n:=at') a6
   have e4:=w64 (n:=m.mem.length) a6
   have hat0:(0:Int)≤(at':Int):=a6
   simp only[go_sem,hg,ho1,ra,ha0]
   refine⟨a6,?_⟩
   refine bc b9 ?_
   by_cases hz:at'<m.mem.length
   ·have hzi:¬(m.mem.length:Int)≤(at':Int):=a6
    have hwl:(gz m.mem).length=m.mem.length:=by unfold gz;rw[j5]
    rw[if_pos hz]
    simp only[go_sem,hg,ho1,rb,hb0,hwc,e2,hc17,e3,e4,hzi,hat0,hmo1,hmi2.2.1,z7 hmi2.1,C5,K8,hc0,hwpc]
    refine⟨a6,hz,a6,?_⟩
    refine⟨a6,aV (.inr rfl) (FrW.from (ob1:=ob1) ⟨fun i hi h13 h24 h27 h47 h38=>⟨(fun i hi=>by (try simp only[upd]);repeat (rw[if_neg (by omega)]);try rfl) i hi,by simp only[upd];(repeat rw[if_neg (by omega)])⟩,⟨by simp[upd,hg],cs1.set 0 (.d (.int .i64 (m.pc+1:Nat))),mi,xc,cnt1,by simp[upd],?_,hmi,?_,?_,hcn1,?_⟩⟩ hfr)⟩
    ·have hp:=hr1.setPc (m.pc+1)
     simp only[upd,C6]
     (repeat rw[if_neg (by omega)])
     exact⟨hp.len,hp.c0,hp.rl,hp.rg,hp.c17,hp.c18,hp.c19,hp.c20,hp.c21,hp.c22,hp.c23,hp.c24,hp.c25,hp.c26,hp.c27⟩
    ·simp only[upd];(repeat rw[if_neg (by omega)]);simp[gz,S7]
    ·simp only[upd];(repeat rw[if_neg (by omega)]);exact hco1
    ·simp only[upd];(repeat rw[if_neg (by omega)]);exact hmore1
   ·have hzi:(m.mem.length:Int)≤(at':Int):=a6
    rw[if_neg hz]
    simp only[go_sem,hg,ho1,rb,hb0,hwc,e2,hc17,e3,e4,hzi,hmi2.2.1,hmo1]
    exact⟨a6,a6,aV (.inl rfl) (FrW.from (h1.done (m':={ m with steps:=m.steps+1,fin:=8 }) ho1 (fun i hi=>by (try simp only[upd]);repeat (rw[if_neg (by omega)]);try rfl) (fun i hi=>by (try simp only[upd]);repeat (rw[if_neg (by omega)]);try rfl) (by simp[upd] <;> rfl) rfl rfl fun _ _ _ hr=>hr.setFin 8) hfr)⟩
  by_cases o24:op=24
  ·subst o24
   have hc22:=hr1.c22
   have hol:=hg9.out
   rw[show doM code inp { m with steps:=m.steps+1 } 24 a b c=(if 65536≤m.out.length then({ m with steps:=m.steps+1,fin:=4 }:M) else { m with steps:=m.steps+1,out:=m.out++[UInt8.ofNat (m.r a)],pc:=m.pc+1 }) from rfl]
   have e1:((m.r a:Nat):Int).tmod 256=((m.r a%256:Nat):Int):=rfl
   have e2:IntKind.u32.wrap ((m.r a%256:Nat):Int)=((m.r a%256:Nat):Int):=cW a6
   have e3:IntKind.u8.wrap ((m.r a%256:Nat):Int)=((m.r a%256:Nat):Int):=by rw[IntKind.wrap_u8];omega
   have hb8:(UInt8.ofNat (m.r a)).toNat=m.r a%256:=by rw[L2]
   obtain⟨rfl,x3⟩:=hmore1
   have hbl:(jW m.out).length=m.out.length:=by unfold jW;rw[j5]
   by_cases hfull:65536≤m.out.length
   ·have hfi:(65536:Int)≤(m.out.length:Int):=a6
    rw[if_pos hfull]
    simp only[go_sem,hg,ho1,ra,ha0,hc22,x3,hfi]
    exact⟨a6,a6,aV (.inl rfl) (FrW.from (h1.done (m':={ m with steps:=m.steps+1,fin:=4 }) ho1 (fun i hi=>by (try simp only[upd]);repeat (rw[if_neg (by omega)]);try rfl) (fun i hi=>by (try simp only[upd]);repeat (rw[if_neg (by omega)]);try rfl) (by simp[upd] <;> rfl) rfl rfl fun _ _ _ hr=>hr.setFin 4) hfr)⟩
   ·have hfi:¬(65536:Int)≤(m.out.length:Int):=a6
    rw[if_neg hfull]
    have h220:∀x,(cs1.set 22 x)[0]? = some (.d (.int .i64 (m.pc:Nat))):=fun x=>by rw[ak a6];exact hc0
    simp only[go_sem,hg,ho1,ra,ha0,hc22,x3,hfi,e1,e2,e3,aC,h220,hwpc]
    have hmi2:mi≠13∧mi≠3002∧mi≠47∧mi≠38:=a6
    refine⟨a6,a6,⟨a8,a6⟩,a6,by simp only[C6];omega,aV (.inr rfl) (FrW.from (ob1:=ob1) ⟨fun i hi h13 h24 h27 h47 h38=>⟨by simp only[upd];(repeat rw[if_neg (by omega)]),by simp only[upd];(repeat rw[if_neg (by omega)])⟩,⟨by simp[upd,hg],(cs1.set 22 (.osl 38 (nxC (apC 5 (g 38) 0) (g 38)) 1 0 (m.out.length+1))).set 0 (.d (.int .i64 (m.pc+1:Nat))),mi,(.osl 38 (nxC (apC 5 (g 38) 0) (g 38)) 1 0 (m.out.length+1)),cnt1,by simp[upd],?_,hmi,?_,?_,hcn1,?_,?_⟩⟩ hfr)⟩
    ·have hp:=(hr1.setOut (.osl 38 (nxC (apC 5 (g 38) 0) (g 38)) 1 0 (m.out.length+1)) (m.out++[UInt8.ofNat (m.r a)])).setPc (m.pc+1)
     simp only[upd]
     (repeat rw[if_neg (by omega)])
     exact hp
    ·simp only[upd];(repeat rw[if_neg (by omega)]);exact hmo1
    ·simp only[upd];(repeat rw[if_neg (by omega)]);exact hco1
    ·simp[upd]
    ·simp only[upd,A5]
     rw[if_neg a8]
     simp[jW,hb8]
     exact l5 a7
  exfalso
  omega
def Ui (l:List Int):D:=.sl (l.map fun n=>[.int .i64 n])
theorem WC.state {cs cs':List C}{code:List Nat}{inp:Str}{m:M}{mc xc cc:C} (h:WC cs code inp m mc xc cc) (hl:cs'.length=28) (he:∀i,i<22→i≠19→cs'[i]? = cs[i]?) {o:Str} (ho:cs'[19]? = some (.d (.str o))):cs'.take 22=stC { m with out:=o } mc:=by
 have hS:=AO (m:={ m with out:=o }) h.rl mc
 refine N3 fun i=>?_
 rw[G8]
 by_cases hi:i<22
 ·rw[if_pos hi]
  unfold stC
  by_cases h0:i=0
  ·subst h0;exact(he 0 a6 a6).trans h.c0
  by_cases h1:i≤16
  ·obtain⟨a,rfl⟩:∃a,i=a+1:=⟨i-1,a6⟩
   rw[he (a+1) a6 a6,show a+1=1+a by omega,h.rg a a6]
   rw[show 1+a=a+1 by omega,H5 (by simp[h.rl];omega),l7,l9,UR,w8]
   have:a<m.reg.length:=by rw[h.rl];omega
   rw[w9 this]
   unfold M.r
   rw[D0,w9 this]
   rfl
  ·obtain⟨k,rfl⟩:∃k,i=17+k:=⟨i-17,a6⟩
   rw[E8 (by simp[h.rl])]
   simp only[j5,j6,h.rl]
   rw[show 17+k-(16+1)=k by omega]
   obtain rfl|rfl|rfl|rfl|rfl:k=0∨k=1∨k=2∨k=3∨k=4:=a6
   ·exact(he 17 a6 a6).trans h.c17
   ·exact(he 18 a6 a6).trans h.c18
   ·exact ho
   ·exact(he 20 a6 a6).trans h.c20
   ·exact(he 21 a6 a6).trans h.c21
 ·rw[if_neg hi,B9 a6]
theorem zq (l:List Nat):List.map C.d (l.map fun x=>[D.int .u32 (x:Nat)]).flatten=gz l:=by
 unfold gz
 induction l with
 |nil=>rfl
 |cons a l ih=>simp only[l7,G1,z8,y1,ih]
theorem Fy (n:Nat):(List.replicate n [C.d (.int .i64 0)]).flatten=kD (List.replicate n 0):=by
 unfold kD
 induction n with
 |zero=>rfl
 |succ n ih=>simp only[D4,G1,l7,z8,y1,ih]
theorem MZ (code:List Nat) (d:Nat) (inp:Str) (fuel:Nat) (hl:code.length≤1000000) (hcw:∀x∈code,x<4294967296) (hd:d≤32768) (hfu:fuel≤500000000000) :
  aG Tryz.prog 73 [eY (code,d),sv inp,stV (Mach.start d),iv .i64 fuel] (fun r=>∃cnt:List Int,r=.tup [stV (runM okI code inp fuel (Mach.start d)),.one (.d (Ui cnt))]):=by
 refine hdR Tryz.func73 rfl [.cell 8 98,.tmp 9] fun g=>?_
 have hC:=Ng code d hl hcw
 have hSl:stV (Mach.start d)=.agg [.d (.int .i64 0),.d (.int .u32 0),.d (.int .u32 0),.d (.int .u32 0),.d (.int .u32 0),.d (.int .u32 0),.d (.int .u32 0),.d (.int .u32 0),.d (.int .u32 0),.d (.int .u32 0),.d (.int .u32 0),.d (.int .u32 0),.d (.int .u32 0),.d (.int .u32 0),.d (.int .u32 0),.d (.int .u32 0),.d (.int .u32 0),.d (iQ (List.replicate d 0)),.d (.int .i64 0),.d (.str []),.d (.int .i64 0),.d (.int .i64 0)]:=rfl
 rw[hSl]
 have hWf:=zq (List.replicate d 0)
 have hW1:∀e∈((List.replicate d 0).map fun x=>[D.int .u32 ((x:Nat):Int)]),e.length=1:=fun e he=>by obtain⟨x,_,rfl⟩:=H8.1 he;rfl
 have hWl:((List.replicate d 0).map fun x=>[D.int .u32 ((x:Nat):Int)]).length=d:=a7
 have hmem:(Mach.start d).mem=List.replicate d 0:=rfl
 have hml:(List.replicate d 0).length=d:=H2
 unfold iQ
 generalize ((List.replicate d 0).map fun x=>[D.int .u32 ((x:Nat):Int)])=W at hWf hW1 hWl ⊢
 have hc0:(0:Int)≤(code.length:Int):=a6
 unfold eY at hC ⊢
 simp only at hC ⊢
 generalize hI:code.map mC=I at hC
 generalize hO:(code.map fun w=>[D.bool (okW w)])=O at hC
 unfold dq at hC ⊢
 simp only[go_sem]
 refine fm rfl Y8 ?_
 rintro _ rfl
 simp only[go_sem]
 refine dK aB mixed [24,12] [([6],[0,1],[],false),([20],[0,1],[],false),([6],[0,1],[],false),([22],[0,1],[],false),([],[1],[0],false),([6],[0,1],[],false),([25],[0,1],[],false),([24,26],[1],[0],false),([6],[0,1],[],false),([28],[0,1],[],false),([6],[0,1],[],false),([30],[0,1],[],false),([6],[0,1],[],false),([32],[0,1],[],false),([21,23,27,29,31,33],[1],[],false),([],[0],[1],false),([12,34],[],[],true)] 2 b9 rfl a8 ?_
 simp only[go_sem]
 iterate 4 (apply aw;· (intro fa ga oa K' hK;simp only[go_sem] at hK ⊢;exact hK))
 (apply bJ;· (intro fa ga oa K' hK;simp only[go_sem,aC] at hK ⊢;exact hK))
 iterate 2 (apply aw;· (intro fa ga oa K' hK;simp only[go_sem] at hK ⊢;exact hK))
 (apply bJ;· (intro fa ga oa K' hK;simp only[go_sem,aC] at hK ⊢;exact⟨hW1,⟨a8,a6⟩,hK⟩))
 iterate 7 (apply aw;· (intro fa ga oa K' hK;simp only[go_sem] at hK ⊢;exact hK))
 (apply bJ;· (intro fa ga oa K' hK;simp only[go_sem] at hK ⊢;exact hK))
 apply bG
 intro K' hK'
 simp only[go_sem]
 refine hK' _ ?_
 clear hK' K'
 simp only[go_sem]
 refine dK aB mixed [38,47,13] [([12],[0,1,2],[],false),([6],[1,2],[],false),([36],[1,2],[],false),([37],[1,2],[0],false),([10],[0,1,2],[],false),([11],[0,1,2],[],false),([4],[0,1,2],[],false),([41],[0,1,2],[],false),([1],[0,1,2],[],false),([4],[0,2],[],false),([44],[0,2],[],false),([45],[0,2],[],false),([46],[0,2],[1],false),([35,38,39,40,42,43,47],[2],[],false),([],[0,1],[2],false),([13,48],[],[],true)] 3 b9 rfl a8 ?_
 simp only[go_sem]
 iterate 3 (apply aw;· (intro fa ga oa K' hK;simp only[go_sem] at hK ⊢;exact hK))
 (apply bJ;· (intro fa ga oa K' hK;simp only[go_sem,aC] at hK ⊢;exact hK))
 iterate 8 (apply aw;· (intro fa ga oa K' hK;simp only[go_sem,j5] at hK ⊢;exact hK))
 (apply bJ;· (intro fa ga oa K' hK;simp only[go_sem,hc0] at hK ⊢;exact⟨l0 _,a6,a6,hK⟩))
 (apply aw;· (intro fa ga oa K' hK;simp only[go_sem] at hK ⊢;exact hK))
 (apply bJ;· (intro fa ga oa K' hK;simp only[go_sem] at hK ⊢;exact hK))
 apply bG
 intro K' hK'
 simp only[go_sem]
 refine hK' _ ?_
 clear hK' K'
 simp only[go_sem]
 refine du (fun n st=>∃(k:Nat) (m:M),n+k=fuel∧runM okI code inp fuel (Mach.start d)=runM okI code inp n m∧Mach.Good m∧m.mem.length=d∧m.steps≤k∧m.rd≤k∧Wn (nxC 211 (g 13)) code inp m st.gen st.obj∧st.f 3=iv .i64 fuel∧st.f 14=iv .i64 k∧st.f 13=.one (.ptr 13 (nxC 211 (g 13)) 0)∧st.f 8=.one (.ptr 8 (nxC 99 (g 8)) 0)∧st.gen 8=nxC 99 (g 8)∧∃Z,st.obj 8=some Z∧Z.length=22) fuel ?_ ?_
 ·refine⟨0,Mach.start d,rfl,rfl,nK d,hml,K9 _,K9 _,⟨?_,_,24,_,List.replicate code.length 0,by simp only[upd,A5] <;> rfl,⟨rfl,rfl,rfl,fun a ha=>?_,?_,rfl,rfl,rfl,rfl,rfl,?_,?_,rfl,rfl,?_⟩,.inl rfl,?_,?_,H2,?_,?_⟩,?_⟩
  ·simp only[upd,A5]
  ·obtain rfl|rfl|rfl|rfl|rfl|rfl|rfl|rfl|rfl|rfl|rfl|rfl|rfl|rfl|rfl|rfl:a=0∨a=1∨a=2∨a=3∨a=4∨a=5∨a=6∨a=7∨a=8∨a=9∨a=10∨a=11∨a=12∨a=13∨a=14∨a=15:=a6
   all_goals rfl
  ·rw[show (Mach.start d).mem.length=W.length by rw[hmem,hml,hWl]];rfl
  ·rw[hI];rfl
  ·rw[hO];rfl
  ·rfl
  ·rw[hmem,←hWf];rfl
  ·rw[←Fy];rfl
  ·rfl
  ·rfl
  ·simp only[go_sem]
   exact⟨_,rfl,rfl⟩
 rintro n f g' ob ⟨k,m,hn,hrun,hg9,hmm,hst,hrd,hW,q3,q14,q13,q8,g8,Z,o8,hZ⟩
 simp only at hW q3 q14 q13 q8 g8 o8
 obtain⟨hg13,cs,mi,xc,cnt,ho,hr,hmi,hmo,hco,hcn,rfl,hxo⟩:=id hW
 have hws:=ah (k:=k) a6
 by_cases hgo:k<fuel∧m.fin=0
 ·obtain⟨hlt,hf⟩:=hgo
  have hlti:(k:Int)<(fuel:Int):=a6
  have hfi:(m.fin:Int)=0:=a6
  simp only[go_sem,q3,q14,q13,hlti,hg13,ho,hr.c21,hfi]
  refine bp rfl (by simp only[go_sem,q13];exact MY hW hcw hg9 a6 hl a6 a6 hf) ?_
  rintro r g2 ob2 ⟨f1,f2⟩
  obtain⟨n1,n2,n3⟩:=Cq (okI:=okI) (code:=code) (inp:=inp) m
  simp only[go_sem,q14,hws]
  refine bP (n-1) a6 ⟨k+1,kE okI code inp m,a6,?_,uy hg9 hcw,a6,a6,a6,f2,?_⟩
  ·rw[hrun,show n=(n-1)+1 by omega,uz hf];rfl
  simp only[go_sem,q3,q13,q8]
  have h8:=f1 8 a8 a8 a8 a8 a8 a8
  exact⟨h8.1.trans g8,Z,h8.2.trans o8,hZ⟩
 ·have hend:runM okI code inp fuel (Mach.start d)=m:=by
   rw[hrun]
   by_cases hf:m.fin=0
   ·rw[show n=0 by omega];rfl
   ·exact FK hf n
  rw[hend]
  have hfin:(¬(k:Int)<(fuel:Int))∨((k:Int)<(fuel:Int)∧¬(m.fin:Int)=0):=a6
  have hu:u8s (List.take m.out.length (jW m.out))=some (m.out.map fun b=>((b.toNat:Nat):Int)):=by rw[l5 (by simp[jW])];exact pq _
  have hcl:=hr.len
  have hbl:(jW m.out).length=m.out.length:=by simp[jW]
  have hb:(List.map (fun n:Int=>UInt8.ofNat n.toNat) (List.map (fun b:UInt8=>((b.toNat:Nat):Int)) m.out))=m.out:=by
   rw[UR]
   conv=>rhs;rw[←List.map_id m.out]
   exact List.map_congr_left fun b _=>by simp
  have hL:=hr.state (cs':=cs.set 19 (C.d (D.str m.out))) (o:=m.out) (by rw[C6];exact hcl) (fun i hi h19=>ak a6) (iJ a6)
  have hc27:(cs.set 19 (C.d (D.str m.out)))[27]? = some (.osl 47 (g' 47) 1 0 code.length):=(ak a6).trans hr.c27
  have hSL:=AO (m:={ m with out:=m.out }) hr.rl (.osl mi (g' mi) 1 0 m.mem.length)
  have hT:(stC { m with out:=m.out } (.osl mi (g' mi) 1 0 m.mem.length)).take 22=stC { m with out:=m.out } (.osl mi (g' mi) 1 0 m.mem.length):=l5 a6
  rcases hfin with hlti|⟨hlti,hfi⟩
  case' inl=>simp only[go_sem,q3,q14,q13,hlti,hg13,ho,hr.c22,hxo,K8,C1,hu,hb]
  case' inr=>simp only[go_sem,q3,q14,q13,hlti,hg13,ho,hr.c21,hfi,hr.c22,hxo,K8,C1,hu,hb]
  all_goals
   refine⟨a6,a6,?_⟩
   refine dK aB mixed [8] [([13],[],[],false),([66],[],[],false),([13],[0],[],false),([68],[0],[],false),([8,67],[],[0],false),([69],[],[],true)] 1 b9 rfl a8 ?_
   simp only[go_sem]
   (apply aw;· (intro fa ga oa K' hK;simp only[go_sem,q13,hg13] at hK ⊢;exact hK))
   (apply aw;· (intro fa ga oa K' hK;simp only[go_sem,hg13,C1,hL] at hK ⊢;exact⟨by rw[C6];omega,hK⟩))
   (apply aw;· (intro fa ga oa K' hK;simp only[go_sem,q13,hg13] at hK ⊢;exact hK))
   (apply aw;· (intro fa ga oa K' hK;simp only[go_sem,hg13,hc27] at hK ⊢;exact hK))
   (apply ig;(focus simp);(focus (intro fa ga oa K' hK;simp only[go_sem,q8,g8,o8,hSL] at hK ⊢;exact⟨a6,hK⟩)))
   apply bG
   intro K' hK'
   simp only[go_sem]
   refine hK' _ ?_
   clear hK' K'
   rw[mV (by rw[hSL];exact hZ)]
   simp only[go_sem,q8,g8,hT,hSL]
   refine⟨_,⟨_,⟨_,_,rfl,mT (m:=m) ?_ rfl,_,_,rfl,vM ?_,rfl⟩,rfl⟩,cnt,rfl⟩
   ·refine mj rfl ?_ rfl
    rcases hmi with rfl|rfl <;> (simp only[upd];(repeat rw[if_neg (by decide)]);exact hmo)
   ·refine qF (cells:=kD cnt) (off:=0) rfl ?_ cnt (fun n=>.int .i64 n) (fun _=>rfl) hcn (fun j a h=>by rw[C5];unfold kD;rw[w8,h];rfl) (by unfold kD;rw[j5];omega)
    simp only[upd];(repeat rw[if_neg (by decide)]);exact hco
theorem RJ (code:List Nat) (d:Nat) (inp:Str) (fuel:Nat) (hl:code.length≤1000000) (hcw:∀x∈code,x<4294967296) (hd:d≤32768) (hfu:fuel≤500000000000) :
  aG Tryz.prog 45 [eY (code,d),sv inp,stV (Mach.start d),iv .i64 fuel] (· = stV (runM okI code inp fuel (Mach.start d))):=by
 refine hdR Tryz.func45 rfl [.cell 8 98] fun g=>?_
 have h2:=MZ code d inp fuel hl hcw hd hfu
 have hgood:=sA (okI:=okI) (inp:=inp) hcw (n:=fuel) (nK d)
 generalize runM okI code inp fuel (Mach.start d)=M at h2 hgood ⊢
 unfold eY at h2 ⊢
 have hSl:stV (Mach.start d)=.agg ((stD (Mach.start d)).map .d):=rfl
 have hT22:List.take 22 (List.map C.d (stD (Mach.start d)))=List.map C.d (stD (Mach.start d)):=l5 (by simp[stD,Mach.start])
 rw[hSl] at h2 ⊢
 have hl22:((stD M).map C.d).length=22:=by simp[stD,hgood.len]
 have hT:((stD M).map C.d).take 22=(stD M).map C.d:=l5 a6
 simp only[go_sem,hT22]
 refine⟨by simp[stD,Mach.start],?_⟩
 refine dX rfl (by simp only[go_sem,hT22];exact h2) (by simp only[go_sem,hT22];rfl) ?_
 rintro _ ⟨cnt,rfl⟩
 unfold stV
 simp only[go_sem,hl22]
 rw[mV (by rw[hl22];rfl)]
 refine⟨a6,?_⟩
 simp only[go_sem,hT,hl22]
 rw[mV (by rw[hl22];rfl)]
 refine⟨a6,?_⟩
 rw[hT]
 exact⟨_,mT (m:=M) (mc:=.d (iQ M.mem)) (.d _) (by unfold stD;rw[A3];rfl),rfl⟩
theorem Ja (code:List Nat) (d:Nat) (inp:Str) (fuel:Nat) (hl:code.length≤1000000) (hcw:∀x∈code,x<4294967296) (hd:d≤32768) (hfu:fuel≤500000000000) :
  aG Tryz.prog 19 [eY (code,d),sv inp,iv .i64 fuel] (· = zb (Cp okI code d inp fuel)):=by
 refine hdR Tryz.func19 rfl [.cell 6 29] fun g=>?_
 have h1:=FD code d hd
 have h2:=RJ code d inp fuel hl hcw hd hfu
 have hgood:=sA (okI:=okI) (inp:=inp) hcw (n:=fuel) (nK d)
 unfold Cp
 generalize runM okI code inp fuel (Mach.start d)=M at h2 hgood ⊢
 unfold eY at h1 h2 ⊢
 have hl22:((stD M).map C.d).length=22:=by simp[stD,hgood.len]
 have hg:∀k,k<5→((stD M).map C.d)[17+k]? = ([.d (iQ M.mem),.d (.int .i64 (M.rd:Nat)),.d (.str M.out),.d (.int .i64 (M.steps:Nat)),.d (.int .i64 (M.fin:Nat))]:List C)[k]?:=fun k hk=>by
  have hA:(stD M).map C.d=((.int .i64 (M.pc:Nat)::M.reg.map fun x=>D.int .u32 (x:Nat)):List D).map C.d++[.d (iQ M.mem),.d (.int .i64 (M.rd:Nat)),.d (.str M.out),.d (.int .i64 (M.steps:Nat)),.d (.int .i64 (M.fin:Nat))]:=by
   unfold stD
   rw[A3]
   rfl
  rw[hA,E8 (by simp[hgood.len])]
  simp only[j5,j6,hgood.len]
  rw[show 17+k-(16+1)=k by omega]
 have g19:((stD M).map C.d)[19]? = some (.d (.str M.out)):=hg 2 a8
 have g20:((stD M).map C.d)[20]? = some (.d (.int .i64 (M.steps:Nat))):=hg 3 a8
 have g21:((stD M).map C.d)[21]? = some (.d (.int .i64 (M.fin:Nat))):=hg 4 a8
 clear hg
 unfold stV at h2
 generalize (stD M).map C.d=L at h2 hl22 g19 g20 g21
 have hT:L.take 22=L:=l5 a6
 have hSt:stV (Mach.start d)=.agg ((stD (Mach.start d)).map .d):=rfl
 rw[hSt] at h1
 simp only[go_sem]
 refine dK aB mixed [7] [([3],[0],[],false),([1],[0],[],false),([3],[0],[],false),([10],[0],[],false),([2],[0],[],false),([8,9,11,12],[0],[],false),([],[],[0],false),([7,13],[],[],true)] 1 b9 rfl a8 ?_
 simp only[go_sem]
 iterate 3 (apply aw;· (intro fa ga oa K' hK;simp only[go_sem] at hK ⊢;exact hK))
 refine aw (v:=.agg ((stD (Mach.start d)).map .d)) (fun fa ga oa K' hK=>?_) ?_
 ·simp only[go_sem] at hK ⊢
  refine dX (k:=bx K') rfl (by simp only[go_sem];exact h1) XX ?_
  exact XJ
 (apply aw;· (intro fa ga oa K' hK;simp only[go_sem] at hK ⊢;exact hK))
 refine aw (v:=.agg L) (fun fa ga oa K' hK=>?_) ?_
 ·simp only[go_sem] at hK ⊢
  refine dX (k:=bx K') rfl (by simp only[go_sem];exact h2) XX ?_
  exact XJ
 (apply bJ;· (intro fa ga oa K' hK;simp only[go_sem] at hK ⊢;exact hK))
 apply bG
 intro K' hK'
 simp only[go_sem,hl22]
 refine hK' _ ?_
 clear hK' K'
 rw[mV (by rw[hl22];rfl)]
 have hl22':=hl22
 by_cases h0:M.fin=0
 ·have h0i:(M.fin:Int)=0:=a6
  rw[if_pos h0]
  have s21:(L.set 21 (C.d (D.int .i64 5)))[21]? = some (C.d (D.int .i64 5)):=iJ a6
  have s20:(L.set 21 (C.d (D.int .i64 5)))[20]? = some (.d (.int .i64 (M.steps:Nat))):=by rw[ak a8];exact g20
  have s19:(L.set 21 (C.d (D.int .i64 5)))[19]? = some (.d (.str M.out)):=by rw[ak a8];exact g19
  simp only[go_sem,g21,h0i,s21,s20,s19]
  exact⟨a6,_,Fd,rfl⟩
 ·have h0i:¬(M.fin:Int)=0:=a6
  rw[if_neg h0]
  simp only[go_sem,g19,g20,g21,h0i]
  exact⟨_,Fd,rfl⟩
theorem zr (s inp:Str) (fuel:Nat) (hs:s.length≤1000000000) (hfu:fuel≤500000000000):aG Tryz.prog 8 [sv s,sv inp,iv .i64 fuel] (· = ME (se s inp fuel)):=by
 refine hdR Tryz.func8 rfl [.cell 6 29,.tmp 7] fun g=>?_
 have hr:=fun m (h:eA s=some m)=>tv h
 unfold se
 simp only[go_sem]
 refine dX rfl (by simp only[go_sem];exact zu s hs) (by simp only[go_sem];cases eA s <;> rfl) ?_
 rintro _ rfl
 cases hm:eA s with
 |none=>
   unfold vI eY
   simp only[go_sem,da]
   exact⟨_,AT (e:=0) (n:=0),rfl⟩
 |some m=>
   obtain⟨code,d⟩:=m
   obtain⟨r1,r2,r3⟩:=hr _ hm
   have hR:=Ja code d inp fuel (by simp only at r1;omega) r3 r2 hfu
   obtain⟨x,y,z,hxyz⟩:∃x y z,Cp okI code d inp fuel=(x,y,z):=⟨_,_,_,rfl⟩
   simp only[Option.map_some]
   rw[hxyz] at hR ⊢
   unfold eY at hR
   unfold vI eY
   unfold zb at hR
   simp only at hR
   simp only[go_sem]
   refine fm rfl YA ?_
   rintro _ rfl
   simp only[go_sem]
   exact⟨_,AT (e:=x) (n:=z),rfl⟩
end
end Go.Proofs.YtgiigidgdhplfaaGreatDoor
namespace Go.Proofs.YtgiigidgdhplfaaGreatDoor.Low
section
attribute [local congr] Go.Am.ite_cc
open Go Go.Am Go.Asm Go.Mach
def mL:Str:=[47,47,32,84,104,101,32,108,105,116,116,108,101,32,97,115,115,101,109,98,108,101,114,58,32,97,110,32,105,109,97,103,101,32,97,115,32,110,117,109,98,101,114,115,32,98,101,99,111,109,101,115,32,105,116,115,32,98,121,116,101,115,46,10,10,47,47,32,84,104,101,32,110,101,120,116,32,110,117,109,98,101,114,59,32,119,104,97,116,32,115,116,97,110,100,115,32,114,105,103,104,116,32,98,101,104,105,110,100,32,105,116,32,105,115,32,114,101,97,100,44,32,116,111,111,46,10,102,117,110,99,32,110,117,109,98,101,114,40,41,32,119,111,114,100,32,123,10,32,32,118,97,114,32,118,44,32,99,59,10,32,32,99,32,61,32,103,101,116,40,41,59,10,32,32,119,104,105,108,101,32,40,52,55,32,60,32,99,32,38,38,32,99,32,60,32,53,56,41,32,123,10,32,32,32,32,118,32,61,32,118,32,42,32,49,48,32,43,32,40,99,32,45,32,52,56,41,59,10,32,32,32,32,99,32,61,32,103,101,116,40,41,59,10,32,32,125,10,32,32,114,101,116,117,114,110,32,118,59,10,125,10,10,47,47,32,65,32,119,111,114,100,39,115,32,102,111,117,114,32,98,121,116,101,115,44,32,116,104,101,32,108,111,119,101,115,116,32,111,110,101,32,102,105,114,115,116,46,10,102,117,110,99,32,101,109,105,116,40,119,41,32,123,10,32,32,112,117,116,40,119,41,59,10,32,32,112,117,116,40,119,32,62,62,32,56,41,59,10,32,32,112,117,116,40,119,32,62,62,32,49,54,41,59,10,32,32,112,117,116,40,119,32,62,62,32,50,52,41,59,10,125,10,10,102,117,110,99,32,109,97,105,110,40,41,32,123,10,32,32,118,97,114,32,110,44,32,111,112,59,10,32,32,112,117,116,40,39,83,39,41,59,10,32,32,112,117,116,40,39,69,39,41,59,10,32,32,112,117,116,40,39,69,39,41,59,10,32,32,112,117,116,40,39,68,39,41,59,10,32,32,110,32,61,32,110,117,109,98,101,114,40,41,59,10,32,32,101,109,105,116,40,110,41,59,10,32,32,101,109,105,116,40,110,117,109,98,101,114,40,41,41,59,10,32,32,119,104,105,108,101,32,40,48,32,60,32,110,41,32,123,10,32,32,32,32,111,112,32,61,32,110,117,109,98,101,114,40,41,59,10,32,32,32,32,105,102,32,40,111,112,32,61,61,32,48,41,32,123,10,32,32,32,32,32,32,101,109,105,116,40,110,117,109,98,101,114,40,41,41,59,10,32,32,32,32,125,32,101,108,115,101,32,123,10,32,32,32,32,32,32,101,109,105,116,40,40,40,111,112,32,60,60,32,50,52,41,32,43,32,40,110,117,109,98,101,114,40,41,32,60,60,32,50,48,41,41,32,43,32,40,40,110,117,109,98,101,114,40,41,32,60,60,32,49,54,41,32,43,32,110,117,109,98,101,114,40,41,41,41,59,10,32,32,32,32,125,10,32,32,32,32,110,32,61,32,110,32,45,32,49,59,10,32,32,125,10,125,10]
theorem PN:(iI mL).2.2=0∧(iI mL).1.length≤30000:=b9
theorem Hu:(au.all fun w=>okI (w/16777216) (w/1048576%16) (w/65536%16) (w%65536))=true:=b9
theorem Bz:eA (su (au,0))=some (au,0):=b9
theorem Dv:aG Tryz.prog 6 [] (· = sv mL):=by
 refine hdP Tryz.func6 rfl [0] fun g=>?_
 simp only[go_sem]
 rfl
theorem Dw {t s:Str} (h:gW t s) (hs:s.length≤65536) (ht:t.length≤1000000000):∃n,aG Tryz.prog 8 [sv (su (au,0)),sv t,iv .i64 (40*(t.length+1):Nat)] (· = .tup [zb (1,s,n),iv .i64 0]):=by
 obtain⟨n,hn⟩:=By Hu h hs (l0 _)
 have:=zr (su (au,0)) t (40*(t.length+1)) b9 a6
 unfold se at this
 rw[Bz,x8] at this
 simp only at this
 rw[hn] at this
 exact⟨n,this⟩
theorem Kb {o:bE} (hs:LO o) (hp:oI o) (ht:gK o) (s:Str):bi Tryz.prog 3 o 3 [sv s] (· = bv true):=by
 refine hdG Tryz.func3 rfl [.tmp 2] fun b₀ β0 s0 w0 g=>?_
 simp only[go_sem]
 refine cp rfl (by simp only[go_sem];exact IN hp ht) ?_
 rintro _ rfl
 by_cases hl:300<s.length
 ·have hli:(300:Int)<(s.length:Int):=a6
  simp only[go_sem,hli]
 have hli:¬(300:Int)<(s.length:Int):=a6
 simp only[go_sem,hli]
 refine iE rfl (by simp only[go_sem];exact Dv) ?_
 rintro _ rfl
 have hC:=pD ht (xy (src:=mL) a8)
 obtain⟨h0,hb⟩:=PN
 generalize iI mL=r at hC h0 hb
 obtain⟨b,k,e⟩:=r
 simp only at h0 hb
 subst h0
 unfold AJ at hC
 have hbi:¬(30000:Int)<(b.length:Int):=a6
 generalize mL=src at hC ⊢
 simp only[go_sem]
 refine cp rfl Y8 ?_
 rintro _ rfl
 simp only[go_sem,hbi]
 refine cp rfl (by simp only[go_sem];exact Er hs hp b a6) ?_
 rintro _ ⟨t,rfl,hL,hT⟩
 have w1:IntKind.i64.wrap ((t.length:Int)+1)=((t.length+1:Nat):Int):=by rw[wrap_i64] <;> omega
 have w2:IntKind.i64.wrap (40*((t.length+1:Nat):Int))=((40*(t.length+1):Nat):Int):=by rw[wrap_i64] <;> omega
 obtain⟨n1,hR1⟩:=Dw hL a6 a6
 simp only[go_sem]
 refine iE rfl (by simp only[go_sem];exact FE) ?_
 rintro _ rfl
 obtain⟨img,himg⟩:∃img,su (au,0)=img:=⟨_,rfl⟩
 have hS:=FE
 rw[himg] at hR1 hS ⊢
 unfold zb at hR1
 simp only[go_sem,w1,w2]
 refine iE rfl (by simp only[go_sem];exact hR1) ?_
 rintro _ rfl
 simp only[go_sem]
 refine cp rfl (by simp only[go_sem];exact Er hs hp s a6) ?_
 rintro _ ⟨u,rfl,hL2,hU⟩
 have w3:IntKind.i64.wrap ((u.length:Int)+1)=((u.length+1:Nat):Int):=by rw[wrap_i64] <;> omega
 have w4:IntKind.i64.wrap (40*((u.length+1:Nat):Int))=((40*(u.length+1):Nat):Int):=by rw[wrap_i64] <;> omega
 obtain⟨n2,hR2⟩:=Dw hL2 a6 a6
 rw[himg] at hR2
 unfold zb at hR2
 simp only[go_sem]
 refine iE rfl Y9 ?_
 rintro _ rfl
 simp only[go_sem,w3,w4]
 refine iE rfl (by simp only[go_sem];exact hR2) ?_
 rintro _ rfl
 exact VU
end
end Go.Proofs.YtgiigidgdhplfaaGreatDoor.Low
namespace Go.Am
section
section
section
variable {P:Program}{t:TypeId}{ds:List D}
end
end
end
end Go.Am
namespace Go.Proofs.YtgiigidgdhplfaaGreatDoor
section
open Go Go.Am Go.ChangeShapes Go.WideShapes Go.ChangeAt Go.RowKit Go.Lib
section
theorem own:ownKnob Tryz.prog.godebug=none:=c8
theorem laidOut:laidOutB Tryz.prog=true:=c8
def qe:List (String×DataW Unit):=[("math/bits.deBruijn32tab",Rows.laid_math_bits_deBruijn32tab),("math/bits.deBruijn64tab",Rows.laid_math_bits_deBruijn64tab),("internal/strconv.uint64pow10",Rows.laid_internal_strconv_uint64pow10),("seedcorn/hex.small",Rows.laid_seedcorn_hex_small),("seedcorn/token.words",Rows.laid_seedcorn_token_words),("seedcorn/token.signs",Rows.laid_seedcorn_token_signs)]
theorem Dx:reachBytes=140737488351232:=c8
theorem u9:Tryz.prog.underlying 9=some .string:=c8
theorem u4:Tryz.prog.underlying 4=some .bool:=c8
theorem u3:Tryz.prog.underlying 3=some (.int .i64):=c8
theorem SW:Tryz.prog.underlying 111=some (.int .u64):=c8
def PO:Option TypeDesc→Option (List TypeId)
 |some (.struct fs)=>some (fs.toList.map (·.type))
 |_=>none
def tys:List TypeId:=[3,35,36,38]
variable {P:Program}
theorem nh {H:Type}{enc:TypeId×Value→H}{w:World}{base:Nat}{sp:Nat→Bool}{held:Bool}{fuel:Nat}{t e:TypeId}{n:Nat}{cs:List Value}{zs:List (List UInt8)}{p:List MemPlace}
  (ht:P.underlying t=some (.array n e)) (he:P.underlying e=some .string) (hce:P.cellsOf e=1) (hct:P.cellsOf t=n)
  (h:DataW.trod enc P w base sp held fuel t cs=some (DataW.agg (zs.map fun z=>.lit (.string z)),p)):∀(i:Nat) z,zs[i]? = some z→cs[i]? = some (.string ⟨z.toArray⟩):=by
 cases fuel with
 |zero=>simp[DataW.trod] at h
 |succ fuel=>
   simp only[DataW.trod,ht,hce,hct,K8] at h
   split at h
   ·obtain⟨xs,hm,hx⟩:=I5.1 h
    have hxs:xs.map (·.1)=zs.map fun z=>(DataW.lit (.string z):DataW H):=by
     have:=congrArg Prod.fst hx
     exact WO
    have hxl:xs.length=n:=by simpa using mapM_length hm
    have hzl:zs.length=n:=by
     have:=congrArg List.length hxs
     simp at this
     omega
    intro i z hz
    have hi:i<n:=by
     have:=(l4.1 hz).1
     omega
    obtain⟨b,hb,hf⟩:=mapM_at hm i i (by simp[hi])
    obtain⟨s,hc,rfl,_⟩:=DataW.trod_string he hf
    have h1:cs[i]? = some (.string s):=by
     have:=congrArg (·[0]?) hc
     simpa[G8,G4] using this
    have h2:(xs.map (·.1))[i]? = some (DataW.lit (.string s.data.toList):DataW H):=by simp[hb]
    rw[hxs,w8,hz] at h2
    have h3:z=s.data.toList:=by simpa using h2
    rw[h1,h3]
   ·cases h
theorem Dy {W w:World}{n:String}{g:Nat} (hn:P.globalNamed n=some g) (he:w.heap[g]? = W.heap[g]?):w.var? P n=W.var? P n:=by
 unfold World.var?
 rw[hn]
 show (match w.heap[g]? with|some (.cells cs _ _)=>some cs|_=>none)=(match W.heap[g]? with|some (.cells cs _ _)=>some cs|_=>none)
 rw[he]
def PP:List Int:=[48,49,50,51,52,53,54,55,56,57,97,98,99,100,101,102]
theorem Hv:∀i:Fin 16,PP[i.1]? = some (((Go.Mach.ol i.1).toNat:Nat):Int):=a8
theorem BA {W:World} (h:laidMetH Tryz.prog qe W):∃o,ny 3 o W∧LO o∧oI o∧gK o:=by
 rw[MakeChecks.laidMetH_plain _ _ _ c8] at h
 have hpow:TabIs Tryz.prog W "internal/strconv.uint64pow10" .u64 pow10Tab:=by
  obtain⟨g,t,cs,fuel,p,hg,hty,hvar,hd⟩:=laidMet.reads h (n:= "internal/strconv.uint64pow10") (d:=Rows.laid_internal_strconv_uint64pow10) (by simp[qe])
  obtain rfl:=D5 ((show Tryz.prog.globalNamed "internal/strconv.uint64pow10" = some 2 by kernel_rfl).symm.trans hg)
  obtain rfl:=D5 ((show (Tryz.prog.globals[2]?).map (·.type)=some 264 by kernel_rfl).symm.trans hty)
  have hcs:=cells_of_tab (H:=Unit) (k:=.u64) (zs:=pow10Tab) (show Tryz.prog.underlying 264=some (.array 20 111) by kernel_rfl) SW c8 c8 hd
  unfold TabIs
  rw[hvar,←hcs]
 have hwordsT:∀(i:Nat) z,Src.FL[i]? = some z→W.cell? ⟨3,i,none⟩=some (.string ⟨z.toArray⟩):=by
  obtain⟨g,t,cs,fuel,p,hg,hty,hvar,hd⟩:=laidMet.reads h (n:= "seedcorn/token.words") (d:=Rows.laid_seedcorn_token_words) (by simp[qe])
  obtain rfl:=D5 ((show Tryz.prog.globalNamed "seedcorn/token.words" = some 3 by kernel_rfl).symm.trans hg)
  obtain rfl:=D5 ((show (Tryz.prog.globals[3]?).map (·.type)=some 276 by kernel_rfl).symm.trans hty)
  intro i z hz
  have hc:=nh (H:=Unit) (zs:=Src.FL) (show Tryz.prog.underlying 276=some (.array 10 9) by kernel_rfl) u9 c8 c8 hd i z hz
  rw[World.var?_cell hg hvar i,←F0]
  exact hc
 have hsignsT:∀(i:Nat) z,Src.Nk[i]? = some z→W.cell? ⟨1,i,none⟩=some (.string ⟨z.toArray⟩):=by
  obtain⟨g,t,cs,fuel,p,hg,hty,hvar,hd⟩:=laidMet.reads h (n:= "seedcorn/token.signs") (d:=Rows.laid_seedcorn_token_signs) (by simp[qe])
  obtain rfl:=D5 ((show Tryz.prog.globalNamed "seedcorn/token.signs" = some 1 by kernel_rfl).symm.trans hg)
  obtain rfl:=D5 ((show (Tryz.prog.globals[1]?).map (·.type)=some 220 by kernel_rfl).symm.trans hty)
  intro i z hz
  have hc:=nh (H:=Unit) (zs:=Src.Nk) (show Tryz.prog.underlying 220=some (.array 24 9) by kernel_rfl) u9 c8 c8 hd i z hz
  rw[World.var?_cell hg hvar i,←F0]
  exact hc
 have h0:=hwordsT 0 _ rfl
 have hlt:3<W.heap.size:=by
  refine Nat.lt_of_not_le fun hle=>?_
  simp[World.cell?,I7 hle] at h0
 have hsmall:∀i:Nat,i<16→W.cell? ⟨0,i,none⟩=some (.int .u8 ((Go.Mach.ol i).toNat:Int)):=by
  obtain⟨g,t,cs,fuel,p,hg,hty,hvar,hd⟩:=laidMet.reads h (n:= "seedcorn/hex.small") (d:=Rows.laid_seedcorn_hex_small) (by simp[qe])
  obtain rfl:=D5 ((show Tryz.prog.globalNamed "seedcorn/hex.small" = some 0 by kernel_rfl).symm.trans hg)
  obtain rfl:=D5 ((show (Tryz.prog.globals[0]?).map (·.type)=some 53 by kernel_rfl).symm.trans hty)
  have hcs:=cells_of_tab (H:=Unit) (k:=.u8) (zs:=PP) (show Tryz.prog.underlying 53=some (.array 16 5) by kernel_rfl) (show Tryz.prog.underlying 5=some (.int .u8) by kernel_rfl) c8 c8 hd
  intro i hi
  rw[World.var?_cell hg hvar i,←F0,hcs,w8,Hv ⟨i,hi⟩]
  rfl
 refine⟨fun b=>W.heap[b]?,⟨hlt,fun _ _=>rfl⟩,fun w hw i hi=>?_,fun w hw=>?_,fun w hw=>⟨fun i t ht=>?_,fun i t ht=>?_⟩⟩
 ·rw[←hsmall i hi]
  unfold World.cell?
  rw[show w.heap[0]? = W.heap[0]? from hw.2 0 a8]
 ·unfold TabIs
  rw[Dy (show Tryz.prog.globalNamed "internal/strconv.uint64pow10" = some 2 by kernel_rfl) (hw.2 2 a8)]
  exact hpow
 ·rw[←hwordsT i t ht]
  unfold World.cell?
  rw[show w.heap[3]? = W.heap[3]? from hw.2 3 a8]
 ·rw[←hsignsT i t ht]
  unfold World.cell?
  rw[show w.heap[1]? = W.heap[1]? from hw.2 1 a8]
end
end
section
open Go Go.Am
def SX:List FuncId:=[3,4,10,21,23,22,49,74,50,75,110,104,105,163,162,164,106,107,165,166,195,196,26,24,51,76,77,78,25,52,79,11,5,12,34,35,58,88,59,60,89,57,61,62,90,123,176,177,202,204,203,217,178,179,33,55,84,116,85,86,87,117,118,119,120,122,121,124,56,36,63,64,91,65,92,125,93,126,13,14,37,66,94,127,180,128,181,130,131,129,182,183,95,132,184,185,190,205,186,187,188,133,189,134,67,68,96,97,38,39,41,71,102,160,192,193,206,161,194,207,103,40,69,98,135,136,137,138,191,139,70,99,140,141,100,142,143,144,145,146,147,148,149,150,151,152,153,154,155,156,157,158,101,159,48,15,16,42,29,30,53,81,112,80,111,31,27,28,7,17,43,72,9,20,47,32,54,83,82,113,114,172,173,174,175,201,213,214,218,215,216,219,220,221,115,6,8,18,44,19,46,45,73,108,167,197,208,209,210,109,168,169,170,171,198,211,212,199,200]
theorem clo:Tryz.prog.closure 3=SX:=c8
theorem Dz:Tryz.prog.unfollowed 3=true:=by
 unfold Program.unfollowed
 rw[clo]
 kernel_rfl
theorem PQ:Tryz.prog.recurses 3=true:=by
 unfold Program.recurses
 rw[Dz]
 rfl
theorem PS:(Rows.chainSeedRow.inPlace==Tryz.prog.inPlace 3)=true:=by
 unfold Program.inPlace
 rw[clo]
 kernel_rfl
theorem PT:(Rows.chainSeedRow.named==Tryz.prog.varsNamed 3)=true:=by
 unfold Program.varsNamed
 rw[clo]
 kernel_rfl
theorem Lx:Tryz.prog.goes 3=false:=by
 unfold Program.goes
 rw[clo,Dz]
 kernel_rfl
theorem Hw:joinedFacts Tryz.prog 3 Tryz.f3 Rows.chainSeedSpec Rows.chainSeedRow=true:=by
 unfold joinedFacts
 rw[PS,PT,Dz,PQ]
 kernel_rfl
theorem DA:false=Rows.chainSeedRow.goesBy Tryz.prog:=by
 unfold OpenClaim.goesBy Program.goesAt Program.goesFrom
 rw[show Tryz.prog.funcNamed Rows.chainSeedRow.func=some 3 by kernel_rfl]
 simp only[Option.any_some,Lx,T6]
 rfl
end
end Go.Proofs.YtgiigidgdhplfaaGreatDoor

/- A part of the proof; no conditions. -/
import Derived.Test.YtbojbioflppbdaaGreatDoorPart17
import Derived.Shelf.SlicesE.Clone
import Derived.KernelRfl
import Derived.Lib.LaidTab
import Derived.Lib.LaidU8
import Derived.OpenShut
import Derived.Laws.IdiomArrays
import Derived.Test.YtbojbioflppbdaaGreatDoorTie
import Derived.Test.YtbojbioflppbdaaGreatDoorCards
set_option linter.unusedSimpArgs false
set_option linter.unusedVariables false
set_option maxHeartbeats 64000000
set_option maxRecDepth 100000
namespace Go.Mach
section
open Go.Asm (Str)
section
variable {s:Str}
theorem Pd{a b c d:UInt8} (h0:s[0]? = some a) (h1:s[1]? = some b) (h2:s[2]? = some c) (h3:s[3]? = some d):s.take 4=[a,b,c,d]:=by
 match s with
 |a'::b'::c'::d'::r=>
   simp at h0 h1 h2 h3
   subst h0 h1 h2 h3
   rfl
 |[]=>simp at h0
 |[_]=>simp at h1
 |[_,_]=>simp at h2
 |[_,_,_]=>simp at h3
def eH (s:Str) (k:Nat):Nat:=w4 (s.getD k 0) (s.getD (k+1) 0) (s.getD (k+2) 0) (s.getD (k+3) 0)
theorem jU{k:Nat} (h:k<s.length):s[k]? = some (s.getD k 0):=by rw[A8,s7 h];rfl
theorem pN (s:Str) (k:Nat):eH s k<4294967296:=by
 unfold eH w4
 have ha:=(s.getD k 0).toNat_lt;have hb:=(s.getD (k+1) 0).toNat_lt;have hc:=(s.getD (k+2) 0).toNat_lt;have hd:=(s.getD (k+3) 0).toNat_lt
 omega
theorem pO{o k:Nat} (h:o+4*k+4≤s.length):(fd (s.drop o))[k]? = some (eH s (o+4*k)):=by
 unfold eH
 refine si _ _ ?_ ?_ ?_ ?_ <;> rw[F9]
 ·exact jU a6
 ·rw[show o+(4*k+1)=o+4*k+1 by omega];exact jU a6
 ·rw[show o+(4*k+2)=o+4*k+2 by omega];exact jU a6
 ·rw[show o+(4*k+3)=o+4*k+3 by omega];exact jU a6
theorem yO (h:12≤s.length):fd ((s.take 12).drop 4)=[eH s 4,eH s 8]:=by
 have hlen8:((s.take 12).drop 4).length=8:=by rw[D8,B7];omega
 have hwl:=nC ((s.take 12).drop 4)
 rw[hlen8] at hwl
 have hl:(s.take 12).length=12:=by rw[B7];omega
 have hg:∀j,j<12→(s.take 12).getD j 0=s.getD j 0:=fun j hj=>by
  rw[A8,A8,G7,if_pos hj]
 have e0:=pO (s:=s.take 12) (o:=4) (k:=0) a6
 have e1:=pO (s:=s.take 12) (o:=4) (k:=1) a6
 unfold eH at e0 e1
 rw[hg _ a8,hg _ a8,hg _ a8,hg _ a8] at e0 e1
 match hx:fd ((s.take 12).drop 4),hwl with
 |[a,b],_=>
   rw[hx] at e0 e1
   simp at e0 e1
   rw[e0,e1]
   rfl
theorem xr (h:12≤s.length) (h2:s.take 4=[83,69,69,68]) :
  ji s=if 16384<eH s 4∨32768<eH s 8∨s.length≠12+4*eH s 4 then none else some (fd (s.drop 12),eH s 8):=by
 unfold ji
 rw[yO h]
 simp only
 by_cases h3:65548<s.length
 ·rw[if_pos (.inr (.inr h3)),if_pos a6]
 ·rw[if_neg (by rw[not_or,not_or];exact⟨a6,fun h=>h h2,h3⟩)]
  by_cases hc:32768<eH s 8∨s.length≠12+4*eH s 4
  ·rw[if_pos hc,if_pos (.inr hc)]
  ·rw[if_neg hc,if_neg a6]
end
end
end Go.Mach
namespace Go.Proofs.YtbojbioflppbdaaGreatDoor
section
open Go Go.Am Go.Asm Go.Mach Go.Shelf
end
section
open Go Go.Am Go.Asm Go.Mach
def okI (op a b c:Nat):Bool:=ee (op:Nat) (a:Nat) (b:Nat) (c:Nat)
theorem Bd {op a b c:Nat} (h:okI op a b c=true):1≤op∧op≤27∧(4≤op∧op≤15→c<16):=by
 unfold okI ee at h
 rw[l7] at h
 obtain⟨h1,h2⟩:=h
 unfold iP at h1
 rw[l7,z8,z8,A5] at h1
 refine⟨h1.1,h1.2,fun h415=>?_⟩
 have hs:Asm.shape op=(true,true,2):=by
  unfold Asm.shape
  rw[if_neg a6,if_neg a6,if_pos h415]
 rw[A5] at h2
 unfold oe inW at h2
 rw[hs] at h2
 simp at h2
 omega
end
end Go.Proofs.YtbojbioflppbdaaGreatDoor
namespace Go.Mach
section
open Go.Asm (Str)
section
section
variable {okI:Nat→Nat→Nat→Nat→Bool}{code:List Nat}{inp:Str}
def Ht (m m':M):Prop:=m'.mem.length=m.mem.length∧m'.steps≤m.steps+1∧m'.rd≤m.rd+1
theorem Hu {m m1:M} (h:m1.mem.length=m.mem.length∧m1.steps≤m.steps+1∧m1.rd=m.rd) (op a b c:Nat):Ht m (doM code inp m1 op a b c):=by
 obtain⟨h1,h2,h3⟩:=h
 have hn:Ht m m1:=⟨h1,h2,a6⟩
 have hx:∀{pc f:Nat}{r:List Nat}{o:Str},Ht m { m1 with pc:=pc,fin:=f,reg:=r,out:=o }:=⟨h1,h2,by show m1.rd≤_;omega⟩
 unfold doM
 refine cA (fun _=>hx) fun _=>?_
 refine cA (fun _=>hx) fun _=>?_
 refine cA (fun _=>hx) fun _=>?_
 refine cA (fun _=>?_) fun _=>?_
 ·cases m1.mem[(m1.r b+c)%4294967296]? <;> exact hx
 refine cA (fun _=>?_) fun _=>?_
 ·cases code[(m1.r b+c)%4294967296]? <;> exact hx
 refine cA (fun _=>cA (fun _=>⟨by show (m1.mem.set _ _).length=_;rw[C4];exact h1,h2,by show m1.rd≤_;omega⟩) fun _=>hx) fun _=>?_
 refine cA (fun _=>hx) fun _=>?_
 refine cA (fun _=>hx) fun _=>?_
 refine cA (fun _=>hx) fun _=>?_
 refine cA (fun _=>hx) fun _=>?_
 refine cA (fun _=>hx) fun _=>?_
 refine cA (fun _=>?_) fun _=>?_
 ·cases inp[m1.rd]? with
  |none=>exact hx
  |some x=>exact⟨h1,h2,by show m1.rd+1≤_;omega⟩
 refine cA (fun _=>cA (fun _=>hx) fun _=>hx) fun _=>?_
 refine cA (fun _=>cA (fun _=>hx) fun _=>hx) fun _=>?_
 refine cA (fun _=>hx) fun _=>?_
 cases applyN op (m1.r b) (m1.r c) <;> exact hx
theorem Bn (m:M):Ht m (jQ okI code inp m):=by
 unfold jQ
 cases code[m.pc]? with
 |none=>exact⟨rfl,by show m.steps≤_;omega,by show m.rd≤_;omega⟩
 |some w=>exact cA (fun _=>Hu (m:=m) (m1:={ m with steps:=m.steps+1 }) ⟨rfl,j9 _,rfl⟩ _ _ _ _) fun _=>⟨rfl,by show m.steps+1≤_;omega,by show m.rd≤_;omega⟩
end
end
end
end Go.Mach
namespace Go.Proofs.YtbojbioflppbdaaGreatDoor
section
open Go Go.Am Go.Asm Go.Mach
def stD (m:M):List D:=.int .i64 (m.pc:Nat)::(m.reg.map fun x=>.int .u32 (x:Nat))++[jD m.mem,.int .i64 (m.rd:Nat),.str m.out,.int .i64 (m.steps:Nat),.int .i64 (m.fin:Nat)]
def stV (m:M):AV:=.agg ((stD m).map .d)
theorem Hd {s:St}{A B:List D}{mc:C}{x:D} (hA:∀y∈A,fh y=y) (hB:∀y∈B,fh y=y) (hm:Frz s mc x):jK s (.agg (A.map .d++mc::B.map .d)) (.agg ((A++x::B).map .d)):=by
 refine⟨A++x::B,a7,fun i c hc=>?_,rfl⟩
 by_cases h1:i<A.length
 ·rw[F6 (by simpa using h1),x7] at hc
  rw[F6 h1]
  cases hx:A[i]? with
  |none=>rw[hx] at hc;cases hc
  |some y=>
    rw[hx] at hc;cases hc
    exact⟨y,rfl,by have:=Frz.d (s:=s) y;rwa [hA y (l4 hx)] at this⟩
 ·obtain⟨k,rfl⟩:∃k,i=A.length+k:=⟨i-A.length,a6⟩
  rw[B8 a7,j5,I7] at hc
  rw[B8 a6,I7]
  cases k with
  |zero=>simp at hc;subst hc;exact⟨x,rfl,hm⟩
  |succ k=>
    rw[l8,x7] at hc
    rw[l8]
    cases hx:B[k]? with
    |none=>rw[hx] at hc;cases hc
    |some y=>
      rw[hx] at hc;cases hc
      exact⟨y,rfl,by have:=Frz.d (s:=s) y;rwa [hB y (l4 hx)] at this⟩
theorem mL {s:St}{m:M}{mc:C}{l:List C} (hm:Frz s mc (jD m.mem)) (hl:l=((.int .i64 (m.pc:Nat)::m.reg.map fun x=>D.int .u32 (x:Nat)):List D).map .d++mc::([.int .i64 (m.rd:Nat),.str m.out,.int .i64 (m.steps:Nat),.int .i64 (m.fin:Nat)]:List D).map .d):jK s (.agg l) (stV m):=by
 rw[hl]
 refine Hd (fun y hy=>?_) (fun y hy=>?_) hm
 ·rcases x9.1 hy with rfl|hy
  ·rfl
  ·obtain⟨x,_,rfl⟩:=G8.1 hy;rfl
 ·simp only[x9,List.mem_nil_iff,E4] at hy
  rcases hy with rfl|rfl|rfl|rfl <;> rfl
def stC (m:M) (mc:C):List C:=((.int .i64 (m.pc:Nat)::m.reg.map fun x=>D.int .u32 (x:Nat)):List D).map .d++mc::([.int .i64 (m.rd:Nat),.str m.out,.int .i64 (m.steps:Nat),.int .i64 (m.fin:Nat)]:List D).map .d
theorem zO {m:M} (h:m.reg.length=16) (mc:C):(stC m mc).length=22:=by simp[stC,h]
theorem tV:∀(L pre cells:List C),cells.length=L.length→setAt (pre++cells) pre.length L=pre++L
 |[],pre,cells,h=>by
   obtain rfl:=y1 (by simpa using h)
   rfl
 |c::L,pre,x::cells,h=>by
   unfold setAt
   have:=tV L (pre++[c]) cells (by simpa using h)
   rw[s6,s6,j4] at this
   rw[show (pre++x::cells).set pre.length c=pre++([c]++cells) by simp]
   exact this
theorem mN {L cells:List C} (h:cells.length=L.length):setAt cells 0 L=L:=tV L [] cells h
def ve (r:Nat×Str×Nat):AV:=.agg [.d (.int .i64 (r.1:Nat)),.d (.str r.2.1),.d (.int .i64 (r.2.2:Nat))]
theorem DK {s:St}{a c:Int}{b:Str}:jK s (.agg [.d (.int .i64 a),.d (.str b),.d (.int .i64 c)]) (.agg [.d (.int .i64 a),.d (.str b),.d (.int .i64 c)]):=by
 refine⟨[.int .i64 a,.str b,.int .i64 c],rfl,fun i c hc'=>?_,rfl⟩
 match i,hc' with
 |0,hc'=>cases hc';exact⟨_,rfl,.d _⟩
 |1,hc'=>cases hc';exact⟨_,rfl,.d _⟩
 |2,hc'=>cases hc';exact⟨_,rfl,.d _⟩
def yu:Option (List Nat×Nat)→AV
 |some m=>.tup [eU m,iv .i64 0]
 |none=>.tup [eU ([],0),iv .i64 7]
theorem DL {s:St}{cc:C}{code:List Nat}{d n:Nat} (hc:Frz s cc (eL code)):nO s [.agg [cc,.d (.int .i64 (d:Nat))],iv .i64 (n:Nat)] (.tup [eU (code,d),iv .i64 (n:Nat)]):=by
 refine⟨_,⟨eU (code,d),_,rfl,⟨[eL code,.int .i64 (d:Nat)],rfl,fun i c hc'=>?_,rfl⟩,_,_,rfl,⟨_,.d _,rfl⟩,rfl⟩,rfl⟩
 match i,hc' with
 |0,hc'=>cases hc';exact⟨_,rfl,hc⟩
 |1,hc'=>cases hc';exact⟨_,rfl,.d _⟩
end
section
attribute [local congr] Go.Am.ite_cc
open Go Go.Am Go.Asm Go.Mach
theorem yD (w:Nat) (hw:w<4294967296):aR Tryz.prog 125 [iv .u32 w] (· = zN w):=by
 refine bM ac mixed Tryz.func125 rfl b9 [.cell 2 130,.tmp 3] rfl c8 (by simp[Tryz.ntmps125]) fun g=>?_
 have d1:((w:Nat):Int).tdiv 16777216=((w/16777216:Nat):Int):=rfl
 have d2:((w:Nat):Int).tdiv 1048576=((w/1048576:Nat):Int):=rfl
 have d3:((w:Nat):Int).tdiv 65536=((w/65536:Nat):Int):=rfl
 have m1:∀x:Nat,((x:Nat):Int).tmod 16=((x%16:Nat):Int):=fun _=>rfl
 have m2:((w:Nat):Int).tmod 65536=((w%65536:Nat):Int):=rfl
 have c64:∀x:Nat,x<4294967296→IntKind.i64.wrap ((x:Nat):Int)=((x:Nat):Int):=fun x hx=>by rw[wrap_i64] <;> omega
 have u1:=cp (n:=w/16777216) a6
 have u2:=cp (n:=w/1048576) a6
 have u3:=cp (n:=w/65536) a6
 have u4:=cp (n:=w/1048576%16) a6
 have u5:=cp (n:=w/65536%16) a6
 have u6:=cp (n:=w%65536) a6
 simp only[go_sem,d1,d2,d3,m1,m2,u1,u2,u3,u4,u5,u6,c64 (w/16777216) a6,c64 (w/1048576%16) a6,c64 (w/65536%16) a6,c64 (w%65536) a6,ew]
 refine aA rfl (by simp only[go_sem];exact CD (w/16777216:Nat) (w/1048576%16:Nat) (w/65536%16:Nat) (w%65536:Nat)) (by simp only[go_sem];rfl) ?_
 rintro _ rfl
 unfold zN
 cases hR:ee (w/16777216:Nat) (w/1048576%16:Nat) (w/65536%16:Nat) (w%65536:Nat)
 ·simp only[go_sem,ew]
  exact⟨_,wG,rfl⟩
 ·simp only[go_sem,ew]
  exact⟨_,wG,rfl⟩
theorem Hl (s:Str) (k:Nat) (h:k+4≤s.length) (hs:s.length≤1000000000):aR Tryz.prog 32 [sv s,iv .i64 k] (· = iv .u32 (eH s k:Nat)):=by
 refine az ac mixed Tryz.func32 rfl b9 [4] rfl c8 (by simp[Tryz.ntmps32]) fun g=>?_
 have ha:=jU (s:=s) (k:=k) a6
 have hb:=jU (s:=s) (k:=k+1) a6
 have hc:=jU (s:=s) (k:=k+2) a6
 have hd:=jU (s:=s) (k:=k+3) a6
 unfold eH
 generalize s.getD k 0=a at ha ⊢
 generalize s.getD (k+1) 0=b at hb ⊢
 generalize s.getD (k+2) 0=c at hc ⊢
 generalize s.getD (k+3) 0=d at hd ⊢
 have la:=a.toNat_lt
 have lb:=b.toNat_lt
 have lc:=c.toNat_lt
 have ld:=d.toNat_lt
 have ia:IntKind.i64.wrap ((k:Int)+1)=((k+1:Nat):Int):=by rw[wrap_i64] <;> omega
 have ib:IntKind.i64.wrap ((k:Int)+2)=((k+2:Nat):Int):=by rw[wrap_i64] <;> omega
 have ic:IntKind.i64.wrap ((k:Int)+3)=((k+3:Nat):Int):=by rw[wrap_i64] <;> omega
 have p0:(0:Int)≤(k:Int):=a6
 have p1:(0:Int)≤((k+1:Nat):Int):=a6
 have p2:(0:Int)≤((k+2:Nat):Int):=a6
 have p3:(0:Int)≤((k+3:Nat):Int):=a6
 have e1:IntKind.u32.wrap (256*((b.toNat:Nat):Int))=((256*b.toNat:Nat):Int):=by rw[IntKind.wrap_u32];omega
 have e2:IntKind.u32.wrap (65536*((c.toNat:Nat):Int))=((65536*c.toNat:Nat):Int):=by rw[IntKind.wrap_u32];omega
 have e3:IntKind.u32.wrap (16777216*((d.toNat:Nat):Int))=((16777216*d.toNat:Nat):Int):=by rw[IntKind.wrap_u32];omega
 have s1:IntKind.u32.wrap (((a.toNat:Nat):Int)+((256*b.toNat:Nat):Int))=((a.toNat+256*b.toNat:Nat):Int):=by rw[IntKind.wrap_u32];omega
 have s2:IntKind.u32.wrap (((a.toNat+256*b.toNat:Nat):Int)+((65536*c.toNat:Nat):Int))=((a.toNat+256*b.toNat+65536*c.toNat:Nat):Int):=by rw[IntKind.wrap_u32];omega
 have s3:IntKind.u32.wrap (((a.toNat+256*b.toNat+65536*c.toNat:Nat):Int)+((16777216*d.toNat:Nat):Int))=((a.toNat+256*b.toNat+65536*c.toNat+16777216*d.toNat:Nat):Int):=by rw[IntKind.wrap_u32];omega
 simp only[go_sem]
 refine qU c9 ?_
 simp only[go_sem,ia,ib,ic,p0,p1,p2,p3,A5,ha,hb,hc,hd,cp (show a.toNat<4294967296 by omega),cp (show b.toNat<4294967296 by omega),cp (show c.toNat<4294967296 by omega),cp (show d.toNat<4294967296 by omega),e1,e2,e3,s1,s2,s3]
 rfl
theorem Hm {x:UInt8}{n:Nat} (h:¬x=UInt8.ofNat n) (hn:n<256):¬((x.toNat:Nat):Int)=(n:Nat):=fun e=>h (UInt8.toNat_inj.1 (by rw[UInt8.toNat_ofNat'];omega))
theorem yE (s:Str) (hs:s.length≤1000000000):aR Tryz.prog 14 [sv s] (· = yu (ji s)):=by
 refine bM ac mixed Tryz.func14 rfl b9 [.cell 2 33,.tmp 3] rfl c8 (by simp[Tryz.ntmps14]) fun g=>?_
 have bad:ji s=none→yu (ji s)=.tup [eU ([],0),iv .i64 7]:=fun h=>by rw[h];rfl
 by_cases h1:s.length<12
 ·have hi:(s.length:Int)<12:=a6
  rw[bad (by unfold ji;rw[if_pos (.inl h1)])]
  simp only[go_sem,hi,ew]
  exact⟨_,iM,rfl⟩
 have hi:¬(s.length:Int)<12:=a6
 obtain⟨x0,g0⟩:=getq (l:=s) (k:=0) a6
 obtain⟨x1,g1⟩:=getq (l:=s) (k:=1) a6
 obtain⟨x2,g2⟩:=getq (l:=s) (k:=2) a6
 obtain⟨x3,g3⟩:=getq (l:=s) (k:=3) a6
 have ht:=Pd g0 g1 g2 g3
 have hbad:¬(x0=83∧x1=69∧x2=69∧x3=68)→ji s=none:=fun h=>by
  unfold ji
  rw[if_pos (.inr (.inl (by rw[ht];intro e;simp only[P1,J3] at e;exact h e)))]
 by_cases c0:x0=83
 case neg=>
  rw[bad (hbad (by simp[c0]))]
  have c0:¬((x0.toNat:Nat):Int)=83:=Hm (n:=83) c0 a8
  simp only[go_sem,hi,g0,g1,g2,g3,c0,ew]
  exact⟨_,iM,rfl⟩
 by_cases c1:x1=69
 case neg=>
  rw[bad (hbad (by simp[c1]))]
  have c0:((x0.toNat:Nat):Int)=83:=by rw[c0];rfl
  have c1:¬((x1.toNat:Nat):Int)=69:=Hm (n:=69) c1 a8
  simp only[go_sem,hi,g0,g1,g2,g3,c0,c1,ew]
  exact⟨_,iM,rfl⟩
 by_cases c2:x2=69
 case neg=>
  rw[bad (hbad (by simp[c2]))]
  have c0:((x0.toNat:Nat):Int)=83:=by rw[c0];rfl
  have c1:((x1.toNat:Nat):Int)=69:=by rw[c1];rfl
  have c2:¬((x2.toNat:Nat):Int)=69:=Hm (n:=69) c2 a8
  simp only[go_sem,hi,g0,g1,g2,g3,c0,c1,c2,ew]
  exact⟨_,iM,rfl⟩
 by_cases c3:x3=68
 case neg=>
  rw[bad (hbad (by simp[c3]))]
  have c0:((x0.toNat:Nat):Int)=83:=by rw[c0];rfl
  have c1:((x1.toNat:Nat):Int)=69:=by rw[c1];rfl
  have c2:((x2.toNat:Nat):Int)=69:=by rw[c2];rfl
  have c3:¬((x3.toNat:Nat):Int)=68:=Hm (n:=68) c3 a8
  simp only[go_sem,hi,g0,g1,g2,g3,c0,c1,c2,c3,ew]
  exact⟨_,iM,rfl⟩
 have ht':s.take 4=[83,69,69,68]:=by rw[ht,c0,c1,c2,c3]
 have c0:((x0.toNat:Nat):Int)=83:=by rw[c0];rfl
 have c1:((x1.toNat:Nat):Int)=69:=by rw[c1];rfl
 have c2:((x2.toNat:Nat):Int)=69:=by rw[c2];rfl
 have c3:((x3.toNat:Nat):Int)=68:=by rw[c3];rfl
 have hI:=xr (s:=s) a6 ht'
 have hW:=Hl s
 have hat:∀k,k+4≤s.length-12→True:=fun _ _=>trivial
 have hx:∀k,12+4*k+4≤s.length→(fd (s.drop 12))[k]? = some (eH s (12+4*k)):=fun k hk=>pO hk
 have hxl:(fd (s.drop 12)).length=(s.length-12)/4:=by rw[nC,D8]
 have hn:=pN s 4
 have hd:=pN s 8
 have hw4:=hW 4 a6 hs
 have hw8:=hW 8 a6 hs
 rw[hI]
 rw[hI] at bad
 clear hI hbad ht ht'
 generalize eH s 4=n at *
 generalize eH s 8=d at *
 generalize fd (s.drop 12)=xs at *
 simp only[go_sem,hi,g0,g1,g2,g3,c0,c1,c2,c3]
 refine aA rfl (by simp only[go_sem];exact hw4) (by simp only[go_sem];rfl) ?_
 rintro _ rfl
 simp only[go_sem]
 refine aA rfl (by simp only[go_sem];exact hw8) (by simp only[go_sem];rfl) ?_
 rintro _ rfl
 have k1:IntKind.i64.wrap ((n:Nat):Int)=((n:Nat):Int):=by rw[wrap_i64] <;> omega
 have k2:IntKind.i64.wrap (4*(n:Int))=((4*n:Nat):Int):=by rw[wrap_i64] <;> omega
 have k3:IntKind.i64.wrap (12+((4*n:Nat):Int))=((12+4*n:Nat):Int):=by rw[wrap_i64] <;> omega
 have k4:IntKind.i64.wrap ((d:Nat):Int)=((d:Nat):Int):=by rw[wrap_i64] <;> omega
 by_cases b1:16384<n
 ·rw[if_pos (.inl b1)]
  have b1:(16384:Int)<(n:Int):=a6
  simp only[go_sem,b1,ew]
  exact⟨_,iM,rfl⟩
 have b1i:¬(16384:Int)<(n:Int):=a6
 by_cases b2:32768<d
 ·rw[if_pos (.inr (.inl b2))]
  have b2:(32768:Int)<(d:Int):=a6
  simp only[go_sem,b1i,b2,ew]
  exact⟨_,iM,rfl⟩
 have b2i:¬(32768:Int)<(d:Int):=a6
 by_cases b3:s.length=12+4*n
 case neg=>
  rw[if_pos (.inr (.inr b3))]
  have b3:¬(s.length:Int)=((12+4*n:Nat):Int):=a6
  simp only[go_sem,b1i,b2i,k1,k2,k3,b3,ew]
  exact⟨_,iM,rfl⟩
 have b3i:(s.length:Int)=((12+4*n:Nat):Int):=a6
 rw[if_neg a6]
 have hxn:xs.length=n:=a6
 simp only[go_sem,b1i,b2i,k1,k2,k3,b3i,k4,ew]
 refine dS (fun N st=>∃(k:Nat) (cc:C),N+k=n∧st.f 0=sv s∧st.f 4=iv .u32 n∧st.f 7=iv .i64 (k:Nat)∧st.f 2=.one (.ptr 2 (nxC 34 (g 2)) 0)∧st.gen 2=nxC 34 (g 2)∧st.obj 2=some [.d .nsl,.d (.int .i64 0)]∧st.f 6=.one (.ptr 6 (st.gen 6) 0)∧st.obj 6=some [cc,.d (.int .i64 d)]∧
  ((k=0∧cc=.d .nsl)∨(0<k∧cc=.osl 69 (st.gen 69) 1 0 k∧st.obj 69=some (gW (xs.take k))))) n ?_ ?_
 ·refine⟨0,.d .nsl,rfl,?_⟩
  simp only[go_sem]
  exact .inl trivial
 rintro N f g' ob ⟨k,cc,hk,q0,q4,q7,q2,q2g,q2o,q6,q6o,qc⟩
 simp only at q0 q4 q7 q2 q2g q2o q6 q6o qc
 have hw:=ai (k:=k) a6
 by_cases hlt:k<n
 ·have hlti:(k:Int)<(n:Int):=a6
  have k5:IntKind.i64.wrap (4*(k:Int))=((4*k:Nat):Int):=by rw[wrap_i64] <;> omega
  have k6:IntKind.i64.wrap (12+((4*k:Nat):Int))=((12+4*k:Nat):Int):=by rw[wrap_i64] <;> omega
  have hwk:=hW (12+4*k) a6 hs
  have hxk:=hx k a6
  have hlw:=pN s (12+4*k)
  generalize eH s (12+4*k)=w at hwk hxk hlw
  have hnx:xs.take (k+1)=xs.take k++[w]:=by rw[A4,hxk];rfl
  have htl:(xs.take k).length=k:=by rw[B7];omega
  simp only[go_sem,q0,q4,q7,k1,hlti]
  refine eX ac mixed [68,69,6] [([6],[0],[],false),([61],[0],[],false),([0],[],[],false),([7],[],[],false),([64],[],[],false),([65],[],[],false),([63,66],[],[],false),([67],[],[0],false),([62,68],[],[1],false),([6],[],[],false),([70,69],[],[],true)] 3 c9 rfl a8 ?_
  simp only[go_sem]
  iterate 6 (apply aG;· (intro fa ga oa K' hK;simp only[go_sem,q0,q7,q6,q6o,k5,k6] at hK ⊢;exact hK))
  refine aG (v:=iv .u32 (w:Nat)) (fun fa ga oa K' hK=>?_) ?_
  ·simp only[go_sem] at hK ⊢
   refine aA (k:=bx K') rfl (by simp only[go_sem];exact hwk) (by simp only[go_sem];rfl) ?_
   rintro _ rfl
   simp only[go_sem]
   exact hK
  (apply ce;· (intro fa ga oa K' hK;simp only[go_sem,aH] at hK ⊢;exact hK))
  rcases qc with⟨hk0,rfl⟩|⟨hk0,rfl,qo⟩
  ·(apply ce;· (intro fa ga oa K' hK;simp only[go_sem,aH] at hK ⊢;exact⟨⟨a8,a8⟩,hK⟩))
   (apply aG;· (intro fa ga oa K' hK;simp only[go_sem,q6,q6o] at hK ⊢;exact hK))
   apply cj
   intro K' hK'
   simp only[go_sem,q6,q6o]
   refine hK' _ ?_
   clear hK' K'
   simp only[go_sem,q7,hw]
   refine bW (N-1) a6 ⟨k+1,.osl 69 (nxC 42 (g' 69)) 1 0 1,a6,?_⟩
   simp only[go_sem,q0,q4,q2,q2g,q2o,q6]
   subst hk0
   refine .inr ⟨a6,rfl,?_⟩
   rw[hnx];rfl
  ·have hcl:(gW (xs.take k)).length=k:=by unfold gW;rw[j5,htl]
   (apply ce;· (intro fa ga oa K' hK;simp only[go_sem,qo,aH] at hK ⊢;exact⟨a6,⟨a8,a6⟩,hK⟩))
   (apply aG;· (intro fa ga oa K' hK;simp only[go_sem,q6,q6o] at hK ⊢;exact hK))
   apply cj
   intro K' hK'
   simp only[go_sem,q6,q6o]
   refine hK' _ ?_
   clear hK' K'
   simp only[go_sem,q7,hw]
   refine bW (N-1) a6 ⟨k+1,.osl 69 (nxC (apC 41 (g' 69) 0) (g' 69)) 1 0 (k+1),a6,?_⟩
   simp only[go_sem,q0,q4,q2,q2g,q2o,q6]
   refine .inr ⟨a6,?_⟩
   rw[hnx,l6 a6];unfold gW;simp
 ·have hlti:¬(k:Int)<(n:Int):=a6
  obtain rfl:k=n:=a6
  rw[l6 a6] at qc
  simp only[go_sem,q0,q4,q7,k1,hlti,q6,q6o,q2,q2g,q2o]
  refine⟨_,DL (code:=xs) (d:=d) (n:=0) ?_,rfl⟩
  rcases qc with⟨hk0,rfl⟩|⟨hk0,rfl,qo⟩
  ·obtain rfl:xs=[]:=y1 a6
   exact .d .nsl
  ·exact qB (cells:=gW xs) (off:=0) rfl (by simp[upd,qo]) xs (fun n=>.int .u32 (n:Nat)) (fun _=>rfl) hxn (fun j a h=>by rw[C2];unfold gW;rw[x7,h];rfl) (by unfold gW;rw[j5];omega)
theorem DV (code:List Nat) (d:Nat) (hd:d≤32768):aR Tryz.prog 25 [eU (code,d)] (· = stV (Mach.start d)):=by
 refine bM ac mixed Tryz.func25 rfl b9 [.cell 2 78] rfl c8 (by simp[Tryz.ntmps25]) fun g=>?_
 have hdi:(d:Int)≤32768:=a6
 unfold eU
 by_cases h0:d=0
 ·subst h0
  simp only[go_sem]
  exact⟨_,mL (m:=Mach.start 0) (.d .nsl) rfl,rfl⟩
 ·have h0i:(0:Int)<(d:Int):=a6
  simp only[go_sem,h0i,hdi]
  refine⟨j9 _,a6,a6,_,mL (m:=Mach.start d) ?_ rfl,rfl⟩
  exact rI (code:=List.replicate d 0) (by simp[upd]) (by simp[upd]) a7
def yF:Option Nat→AV
 |some x=>.tup [iv .u32 (x:Nat),bv true]
 |none=>.tup [iv .u32 0,bv false]
theorem zP (l:List Nat) (b c:Nat) (hl:l.length≤1000000) (hc:c<65536):aR Tryz.prog 127 [.one (.d (jD l)),iv .u32 b,iv .i64 c] (· = yF (l[(b+c)%4294967296]?)):=by
 refine az ac mixed Tryz.func127 rfl b9 [6,7] rfl c8 (by simp[Tryz.ntmps127]) fun g=>?_
 have e1:=cp (n:=c) a6
 have e2:=vd b c
 have hlt:(b+c)%4294967296<4294967296:=Nat.mod_lt _ a8
 generalize (b+c)%4294967296=at' at e2 hlt ⊢
 have e3:=w64 (n:=at') a6
 have e4:=w64 (n:=l.length) a6
 have h0:(0:Int)≤(at':Int):=a6
 unfold jD
 by_cases h:at'<l.length
 ·obtain⟨x,hx⟩:=getq h
  have hn:¬(l.length:Int)≤(at':Int):=a6
  have hg:(l.map fun x=>[D.int .u32 (x:Nat)])[at']? = some [.int .u32 (x:Nat)]:=by rw[x7,hx];rfl
  rw[hx]
  simp only[go_sem,e1,e2,e3,e4,hn,h0,hg,j5,yF]
 ·have hy:(l.length:Int)≤(at':Int):=a6
  rw[C7 a6]
  simp only[go_sem,e1,e2,e3,e4,hy,j5,yF]
section
def okW (w:Nat):Bool:=okI (w/16777216) (w/1048576%16) (w/65536%16) (w%65536)
def mv (w:Nat):List D:=if okW w=true then [.int .i64 (w/16777216:Nat),.int .i64 (w/1048576%16:Nat),.int .i64 (w/65536%16:Nat),.int .i64 (w%65536:Nat)] else [.int .i64 0,.int .i64 0,.int .i64 0,.int .i64 0]
theorem wM (w:Nat):(mv w).length=4:=by unfold mv;split <;> rfl
theorem Bi (w:Nat):∀x∈mv w,fh x=x:=fun x hx=>by
 unfold mv at hx
 split at hx <;> simp only[x9,A1,E4] at hx <;> rcases hx with rfl|rfl|rfl|rfl <;> rfl
def er (l:List Nat):List C:=l.flatMap fun w=>(mv w).map .d
def sW (l:List Nat):List C:=l.map fun w=>.d (.bool (okW w))
theorem Bj (l:List Nat):sW l=l.flatMap fun w=>([D.bool (okW w)]).map .d:=by
 unfold sW
 induction l with
 |nil=>rfl
 |cons a l ih=>simpa using ih
theorem fZ:∀l:List Nat,(er l).length=4*l.length
 |[]=>rfl
 |w::l=>by
   have ih:=fZ l
   unfold er at ih ⊢
   rw[D1,j4,j5,wM,ih];simp only[j6];omega
theorem yG (l:List Nat) (w:Nat):er (l++[w])=er l++(mv w).map .d:=by unfold er;rw[N0];simp
theorem Bk (l:List Nat) (w:Nat):sW (l++[w])=sW l++[.d (.bool (okW w))]:=by unfold sW;simp
variable {pre rest:List C}
theorem Rj{p:Nat} (h:pre.length=p) (x0 x1 x2 x3 a b c d:C):((((pre++x0::x1::x2::x3::rest).set p a).set (p+1) b).set (p+1+1) c).set (p+1+1+1) d=(pre++[a,b,c,d])++rest:=by
 subst h
 rw[show pre.length+1+1=pre.length+2 from rfl,show pre.length+2+1=pre.length+3 from rfl]
 simp
theorem Rk{p:Nat} (h:pre.length=p) (x0 a:C):(pre++x0::rest).set p a=(pre++[a])++rest:=by
 subst h
 simp
def KJ (w:Nat):AV:=.tup [.agg ((mv w).map .d),iv .i64 (if okW w=true then 0 else 7)]
theorem Hn (w:Nat):zN w=KJ w:=by
 unfold zN KJ mv okW okI
 split <;> rfl
theorem KK (code:List Nat) (d:Nat) (hl:code.length≤1000000) (hcw:∀w∈code,w<4294967296):aR Tryz.prog 74 [eU (code,d)] (· = .tup [.one (.d (.sl (code.map mv))),.one (.d (.sl (code.map fun w=>[.bool (okW w)])))]):=by
 refine bM ac mixed Tryz.func74 rfl b9 [.tmp 2,.tmp 3] rfl c8 (by simp[Tryz.ntmps74]) fun g=>?_
 have h0:(0:Int)≤(code.length:Int):=a6
 unfold eU eL
 simp only[go_sem,j5,h0]
 refine⟨j9 _,a6,a6,j9 _,a6,a6,?_⟩
 refine dS (fun n st=>∃k:Nat,n+k=code.length∧st.f 1=.one (.ptr 1 (nxC 34 (g 1)) 0)∧st.gen 1=nxC 34 (g 1)∧st.obj 1=some [.d (.sl (code.map fun n=>[.int .u32 (n:Nat)])),.d (.int .i64 (d:Nat))]∧st.f 6=iv .i64 k∧
  st.f 4=.one (.osl 12 (st.gen 12) 4 0 code.length)∧st.obj 12=some (er (code.take k)++(List.replicate n [C.d (.int .i64 0),.d (.int .i64 0),.d (.int .i64 0),.d (.int .i64 0)]).flatten)∧
  st.f 5=.one (.osl 16 (st.gen 16) 1 0 code.length)∧st.obj 16=some (sW (code.take k)++(List.replicate n [C.d (.bool false)]).flatten)) code.length ?_ ?_
 ·refine⟨0,rfl,?_⟩
  simp only[go_sem]
  try exact⟨rfl,rfl⟩
 rintro n f g' ob ⟨k,hk,q1,q1g,q1o,q6,q4,q4o,q5,q5o⟩
 simp only at q1 q1g q1o q6 q4 q4o q5 q5o
 have hw:=ai (k:=k) a6
 cases n with
 |zero=>
   obtain rfl:k=code.length:=a6
   have hno:¬(code.length:Int)<(code.length:Int):=a6
   rw[l6 (j9 _)] at q4o q5o
   simp only[J8,List.flatten_nil,l9] at q4o q5o
   simp only[go_sem,q1,q1g,q1o,q6,q4,q5,hno,j5]
   exact⟨_,⟨_,⟨_,_,rfl,vg (de (cells:=er code) rfl code mv (by simp[upd,q4o]) rfl (fun a _=>Bi a) (fun a _=>wM a) rfl),_,_,rfl,vg (de (cells:=sW code) rfl code (fun w=>[.bool (okW w)]) (by simp[upd,q5o]) (Bj code) (fun a _ x hx=>by simp only[C5] at hx;subst hx;rfl) (fun _ _=>rfl) rfl),rfl⟩,rfl⟩,rfl⟩
 |succ m=>
   have hlt:k<code.length:=a6
   have hlti:(k:Int)<(code.length:Int):=a6
   have hk0:(0:Int)≤(k:Int):=a6
   obtain⟨w,hwk⟩:=getq hlt
   have hg:(code.map fun n=>[D.int .u32 (n:Nat)])[k]? = some [.int .u32 (w:Nat)]:=by rw[x7,hwk];rfl
   have hD:=yD w (hcw w (l4 hwk))
   rw[Hn] at hD
   have htk:code.take (k+1)=code.take k++[w]:=by rw[A4,hwk];rfl
   have htl:(code.take k).length=k:=by rw[B7];omega
   have hpl:(er (code.take k)).length=k*4:=by rw[fZ,htl];omega
   have hol:(sW (code.take k)).length=k:=by unfold sW;rw[j5,htl]
   have hs4:=fun x a b c d=>Rj (rest:=(List.replicate m [C.d (.int .i64 0),.d (.int .i64 0),.d (.int .i64 0),.d (.int .i64 0)]).flatten) hpl x x x x a b c d
   have hs1:=Rk (rest:=(List.replicate m [C.d (.bool false)]).flatten) hol (C.d (.bool false))
   rw[D6,D3] at q4o q5o
   have hi1:=yG (code.take k) w
   have ho1:=Bk (code.take k) w
   rw[←htk] at hi1 ho1
   generalize er (code.take k)=A at q4o hpl hs4 hi1
   generalize sW (code.take k)=B at q5o hol hs1 ho1
   unfold KJ mv at hD
   unfold mv at hi1
   simp only[go_sem,q1,q1g,q1o,q6,hlti,hk0,hg,j5]
   cases hR:okW w
   ·rw[hR,if_neg a7] at hD
    rw[hR,if_neg a7] at hi1
    rw[hR] at ho1
    simp only[l5,w7,B5,A6] at hD hi1
    refine aA rfl (by simp only[go_sem];exact hD) (by simp only[go_sem];rfl) ?_
    rintro _ rfl
    simp only[go_sem,q1,q4,q4o,q5,q5o,q6,hk0,hlti]
    refine⟨by simp only[j4,j6,hpl];omega,by simp only[j4,j6,hol];omega,?_⟩
    simp only[go_sem,q6,hw]
    refine bW m a6 ⟨k+1,a6,?_⟩
    simp only[go_sem,q1,q1g,q1o,q4,q5]
    exact⟨by rw[hs4,hi1],by rw[hs1,ho1]⟩
   ·rw[hR,if_pos rfl] at hD
    rw[hR,if_pos rfl] at hi1
    rw[hR] at ho1
    simp only[l5,w7,A9] at hD hi1
    refine aA rfl (by simp only[go_sem];exact hD) (by simp only[go_sem];rfl) ?_
    rintro _ rfl
    simp only[go_sem,q1,q4,q4o,q5,q5o,q6,hk0,hlti]
    refine⟨by simp only[j4,j6,hpl];omega,by simp only[j4,j6,hol];omega,?_⟩
    simp only[go_sem,q6,hw]
    refine bW m a6 ⟨k+1,a6,?_⟩
    simp only[go_sem,q1,q1g,q1o,q4,q5]
    exact⟨by rw[hs4,hi1],by rw[hs1,ho1]⟩
end
end
section
open Go Go.Am Go.Asm Go.Mach
section
structure WC (cs:List C) (code:List Nat) (inp:Str) (m:M) (mc xc cc:C):Prop where
 len:cs.length=28
 c0:cs[0]? = some (.d (.int .i64 (m.pc:Nat)))
 rl:m.reg.length=16
 rg:∀a,a<16→cs[1+a]? = some (.d (.int .u32 (m.r a:Nat)))
 c17:cs[17]? = some (mc)
 c18:cs[18]? = some (.d (.int .i64 (m.rd:Nat)))
 c19:cs[19]? = some (.d (.str []))
 c20:cs[20]? = some (.d (.int .i64 (m.steps:Nat)))
 c21:cs[21]? = some (.d (.int .i64 (m.fin:Nat)))
 c22:cs[22]? = some (xc)
 c23:cs[23]? = some (.d (.sl (code.map mv)))
 c24:cs[24]? = some (.d (.sl (code.map fun w=>[.bool (okW w)])))
 c25:cs[25]? = some (.d (eL code))
 c26:cs[26]? = some (.d (.str inp))
 c27:cs[27]? = some (cc)
section
variable {cs:List C}{code:List Nat}{inp:Str}{m:M}{mc xc cc:C}
theorem WC.setReg (h:WC cs code inp m mc xc cc) {a:Nat} (ha:a<16) (x:Nat):WC (cs.set (1+a) (.d (.int .u32 (x:Nat)))) code inp { m with reg:=m.reg.set a x } mc xc cc:=by
 have hl:=h.len
 refine⟨by simp[h.len],by rw[aq a6];exact h.c0,by simp[h.rl],fun k hk=>?_,by rw[aq a6];exact h.c17,by rw[aq a6];exact h.c18,by rw[aq a6];exact h.c19,by rw[aq a6];exact h.c20,by rw[aq a6];exact h.c21,by rw[aq a6];exact h.c22,by rw[aq a6];exact h.c23,by rw[aq a6];exact h.c24,by rw[aq a6];exact h.c25,by rw[aq a6];exact h.c26,by rw[aq a6];exact h.c27⟩
 rw[OJ h.rl ha]
 by_cases hk':k=a
 ·subst hk';rw[if_pos rfl,iJ a6]
 ·rw[if_neg hk',aq a6];exact h.rg k hk
theorem WC.setPc (h:WC cs code inp m mc xc cc) (n:Nat):WC (cs.set 0 (.d (.int .i64 (n:Nat)))) code inp { m with pc:=n } mc xc cc:=
 ⟨by simp[h.len],iJ (by rw[h.len];decide),h.rl,fun k hk=>by rw[aq a6];exact h.rg k hk,by rw[aq a6];exact h.c17,by rw[aq a6];exact h.c18,by rw[aq a6];exact h.c19,by rw[aq a6];exact h.c20,by rw[aq a6];exact h.c21,by rw[aq a6];exact h.c22,by rw[aq a6];exact h.c23,by rw[aq a6];exact h.c24,by rw[aq a6];exact h.c25,by rw[aq a6];exact h.c26,by rw[aq a6];exact h.c27⟩
theorem WC.setRd (h:WC cs code inp m mc xc cc) (n:Nat):WC (cs.set 18 (.d (.int .i64 (n:Nat)))) code inp { m with rd:=n } mc xc cc:=
 ⟨by simp[h.len],by rw[aq a6];exact h.c0,h.rl,fun k hk=>by rw[aq a6];exact h.rg k hk,by rw[aq a6];exact h.c17,iJ (by rw[h.len];decide),by rw[aq a6];exact h.c19,by rw[aq a6];exact h.c20,by rw[aq a6];exact h.c21,by rw[aq a6];exact h.c22,by rw[aq a6];exact h.c23,by rw[aq a6];exact h.c24,by rw[aq a6];exact h.c25,by rw[aq a6];exact h.c26,by rw[aq a6];exact h.c27⟩
theorem WC.setSteps (h:WC cs code inp m mc xc cc) (n:Nat):WC (cs.set 20 (.d (.int .i64 (n:Nat)))) code inp { m with steps:=n } mc xc cc:=
 ⟨by simp[h.len],by rw[aq a6];exact h.c0,h.rl,fun k hk=>by rw[aq a6];exact h.rg k hk,by rw[aq a6];exact h.c17,by rw[aq a6];exact h.c18,by rw[aq a6];exact h.c19,iJ (by rw[h.len];decide),by rw[aq a6];exact h.c21,by rw[aq a6];exact h.c22,by rw[aq a6];exact h.c23,by rw[aq a6];exact h.c24,by rw[aq a6];exact h.c25,by rw[aq a6];exact h.c26,by rw[aq a6];exact h.c27⟩
theorem WC.setFin (h:WC cs code inp m mc xc cc) (n:Nat):WC (cs.set 21 (.d (.int .i64 (n:Nat)))) code inp { m with fin:=n } mc xc cc:=
 ⟨by simp[h.len],by rw[aq a6];exact h.c0,h.rl,fun k hk=>by rw[aq a6];exact h.rg k hk,by rw[aq a6];exact h.c17,by rw[aq a6];exact h.c18,by rw[aq a6];exact h.c19,by rw[aq a6];exact h.c20,iJ (by rw[h.len];decide),by rw[aq a6];exact h.c22,by rw[aq a6];exact h.c23,by rw[aq a6];exact h.c24,by rw[aq a6];exact h.c25,by rw[aq a6];exact h.c26,by rw[aq a6];exact h.c27⟩
theorem WC.setOut (h:WC cs code inp m mc xc cc) (c:C) (o:Str):WC (cs.set 22 (c)) code inp { m with out:=o } mc c cc:=
 ⟨by simp[h.len],by rw[aq a6];exact h.c0,h.rl,fun k hk=>by rw[aq a6];exact h.rg k hk,by rw[aq a6];exact h.c17,by rw[aq a6];exact h.c18,by rw[aq a6];exact h.c19,by rw[aq a6];exact h.c20,by rw[aq a6];exact h.c21,iJ (by rw[h.len];decide),by rw[aq a6];exact h.c23,by rw[aq a6];exact h.c24,by rw[aq a6];exact h.c25,by rw[aq a6];exact h.c26,by rw[aq a6];exact h.c27⟩
end
def kB (l:List Int):List C:=l.map fun n=>.d (.int .i64 n)
structure Wn (gr:Nat) (code:List Nat) (inp:Str) (m:M) (g:Nat→Nat) (ob:Obs):Prop where
 gen:g 13=gr
 obj:∃cs mi xc cnt,ob 13=some cs∧WC cs code inp m (.osl mi (g mi) 1 0 m.mem.length) xc (.osl 47 (g 47) 1 0 code.length)∧(mi=24∨mi=27)∧ob mi=some (gW m.mem)∧ob 47=some (kB cnt)∧cnt.length=code.length∧
  (xc=.osl 38 (g 38) 1 0 m.out.length∧ob 38=some (kZ m.out))
end
end
section
attribute [local congr] Go.Am.ite_cc
open Go Go.Am Go.Asm Go.Mach
section
def FrW (g:Nat→Nat) (ob:Obs) (g':Nat→Nat) (ob':Obs):Prop:=∀i,i<3000→i≠13→i≠24→i≠27→i≠47→i≠38→g' i=g i∧ob' i=ob i
variable {gr:Nat}{code:List Nat}{inp:Str}{g g':Nat→Nat}{ob ob':Obs}{m:M}
theorem Wn.cells{m m':M} (h:Wn gr code inp m g ob) {cs':List C} (hg:∀i,(i=13∨i=24∨i=27∨i=47∨i=38)→g' i=g i) (ho:∀i,(i=24∨i=27∨i=47∨i=38)→ob' i=ob i)
  (hc:ob' 13=some cs') (hm:m'.mem=m.mem) (hx:m'.out=m.out) (hr:∀cs mc xc cc,ob 13=some cs→WC cs code inp m mc xc cc→WC cs' code inp m' mc xc cc):Wn gr code inp m' g' ob':=by
 obtain⟨h1,cs,mi,xc,cnt,h2,h3,h4,h5,h6,h7,h8⟩:=h
 have hmi:g' mi=g mi∧ob' mi=ob mi:=⟨hg mi a6,ho mi a6⟩
 refine⟨by rw[hg 13 a8];exact h1,cs',mi,xc,cnt,hc,?_,h4,by rw[hmi.2,hm];exact h5,by rw[ho 47 a8];exact h6,h7,by rw[hg 38 a8,ho 38 a8,hx];exact h8⟩
 rw[hmi.1,hm,hg 47 a8]
 exact hr cs _ _ _ h2 h3
theorem Wn.same (h:Wn gr code inp m g ob) (hg:∀i,(i=13∨i=24∨i=27∨i=47∨i=38)→g' i=g i) (ho:∀i,(i=13∨i=24∨i=27∨i=47∨i=38)→ob' i=ob i):Wn gr code inp m g' ob':=by
 obtain⟨cs,_,_,_,h2,_⟩:=id h.obj
 exact h.cells (cs':=cs) hg (fun i hi=>ho i a6) (by rw[ho 13 a8];exact h2) rfl rfl fun cs2 _ _ _ e r=>by rw[h2] at e;cases e;exact r
theorem Wn.done{m m':M}{cs cs':List C} (h:Wn gr code inp m g ob) (ho:ob 13=some cs) (hg':∀i,(i<3000∨i=38)→g' i=g i) (ho':∀i,(i≠13∧(i<3000∨i=38))→ob' i=ob i)
  (hc:ob' 13=some cs') (hm:m'.mem=m.mem) (hx:m'.out=m.out) (hr:∀mc xc cc,WC cs code inp m mc xc cc→WC cs' code inp m' mc xc cc):FrW g ob g' ob'∧Wn gr code inp m' g' ob':=
 ⟨fun i hi h13 _ _ _ _=>⟨hg' i (.inl hi),ho' i ⟨h13,.inl hi⟩⟩,h.cells (fun i hi=>hg' i a6) (fun i hi=>ho' i a6) hc hm hx fun cs2 mc xc cc e r=>by rw[ho] at e;cases e;exact hr mc xc cc r⟩
theorem IJ{g:Nat→Nat}{ob:Obs} (h:Wn gr code inp m g ob) (a x:Nat) (ha:a<16) (hpc:m.pc≤4294967296000000) :
  jb Tryz.prog 126 [.one (.ptr 13 gr 0),iv .i64 a,iv .u32 x] g ob (fun _ g' ob'=>FrW g ob g' ob'∧Wn gr code inp (m.set a x) g' ob'):=by
 refine ci 4000 ac mixed Tryz.func126 rfl b9 [] rfl c8 (by simp[Tryz.ntmps126]) ?_
 obtain⟨hg,cs,mi,xc,cnt,ho,hr,-⟩:=id h
 have hws:=ai (k:=m.pc) a6
 have hl:=hr.len
 have ha0:(0:Int)≤(a:Int):=a6
 have hset:(cs.set (1+a) (.d (.int .u32 (x:Nat))))[0]? = some (.d (.int .i64 (m.pc:Nat))):=by rw[aq a6];exact hr.c0
 simp only[go_sem,hg,ho,ha0,hset,hws]
 refine⟨a6,a6,?_⟩
 exact⟨by simp only[C4];omega,ba (.inr rfl) (h.done ho (fun i hi=>by (try simp only[upd]);repeat (rw[if_neg (by omega)]);try rfl) (fun i hi=>by (try simp only[upd]);repeat (rw[if_neg (by omega)]);try rfl) (by simp[upd] <;> rfl) rfl rfl fun _ _ _ hr=>(hr.setReg ha x).setPc (m.pc+1))⟩
theorem KC{g:Nat→Nat}{ob:Obs} (h:Wn gr code inp m g ob) (b:Bool) (c:Nat) (hpc:m.pc≤4294967296000000) :
  jb Tryz.prog 128 [.one (.ptr 13 gr 0),bv b,iv .i64 c] g ob (fun _ g' ob'=>FrW g ob g' ob'∧Wn gr code inp { m with pc:=if b=true then c else m.pc+1 } g' ob'):=by
 refine ci 4000 ac mixed Tryz.func128 rfl b9 [] rfl c8 (by simp[Tryz.ntmps128]) ?_
 obtain⟨hg,cs,mi,xc,cnt,ho,hr,-⟩:=id h
 have hws:=ai (k:=m.pc) a6
 have hl:=hr.len
 cases b
 ·simp only[go_sem,hg,ho,hr.c0,hws]
  exact⟨a6,ba (.inr rfl) (h.done ho (fun i hi=>by (try simp only[upd]);repeat (rw[if_neg (by omega)]);try rfl) (fun i hi=>by (try simp only[upd]);repeat (rw[if_neg (by omega)]);try rfl) (by simp[upd] <;> rfl) rfl rfl fun _ _ _ hr=>hr.setPc (m.pc+1))⟩
 ·simp only[go_sem,hg,ho]
  exact⟨a6,ba (.inr rfl) (h.done ho (fun i hi=>by (try simp only[upd]);repeat (rw[if_neg (by omega)]);try rfl) (fun i hi=>by (try simp only[upd]);repeat (rw[if_neg (by omega)]);try rfl) (by simp[upd] <;> rfl) rfl rfl fun _ _ _ hr=>hr.setPc c)⟩
end
theorem FrW.from {g g':Nat→Nat}{ob ob1 ob':Obs}{P:Prop} (h:FrW g ob1 g' ob'∧P) (hfr:∀i,i≠13→i≠47→ob1 i=ob i):FrW g ob g' ob'∧P:=
 ⟨fun i a b c d e f=>⟨(h.1 i a b c d e f).1,(h.1 i a b c d e f).2.trans (hfr i b e)⟩,h.2⟩
theorem KD {gr:Nat}{code:List Nat}{inp:Str}{m:M}{g:Nat→Nat}{ob:Obs} (h:Wn gr code inp m g ob) (hcw:∀x∈code,x<4294967296) (hg9:Mach.Good m) (hml:m.mem.length≤1000000) (hcl:code.length≤1000000) (hst:m.steps<1000000000000) (hrd:m.rd≤1000000000000) (hf:m.fin=0) :
  jb Tryz.prog 75 [.one (.ptr 13 gr 0)] g ob (fun _ g' ob'=>FrW g ob g' ob'∧Wn gr code inp (jQ okI code inp m) g' ob'):=by
 refine ci 3000 ac mixed Tryz.func75 rfl b9 [] rfl c8 (by simp[Tryz.ntmps75]) ?_
 obtain⟨hg,cs,mi,xc,cnt,ho,hr,hmi,hmo,hco,hcn,hmore⟩:=id h
 have hl:=hr.len
 have hp0:¬(m.pc:Int)<0:=a6
 have hp00:(0:Int)≤(m.pc:Int):=a6
 have hws:=ai (k:=m.steps) a6
 simp only[go_sem]
 refine bF c9 ?_
 by_cases hlt:m.pc<code.length
 case neg=>
  have hle:(code.length:Int)≤(m.pc:Int):=a6
  rw[show jQ okI code inp m = { m with fin:=7 } by unfold jQ;rw[C7 a6]]
  simp only[go_sem,hg,ho,hr.c0,hr.c23,hp0,j5,hle]
  exact⟨a6,ba (.inl rfl) (h.done ho (fun i hi=>by (try simp only[upd]);repeat (rw[if_neg (by omega)]);try rfl) (fun i hi=>by (try simp only[upd]);repeat (rw[if_neg (by omega)]);try rfl) (by simp[upd] <;> rfl) rfl rfl fun _ _ _ hr=>hr.setFin 7)⟩
 have hle:¬(code.length:Int)≤(m.pc:Int):=a6
 obtain⟨w,hw⟩:=getq hlt
 have hwlt:=hcw w (l4 hw)
 simp only[go_sem,hg,ho,hr.c0,hr.c23,hr.c20,hp0,j5,hle,hws]
 refine⟨a6,?_⟩
 refine bF c9 ?_
 have hr1:=hr.setSteps (m.steps+1)
 generalize hcs1:cs.set 20 (.d (.int .i64 (m.steps+1:Nat)))=cs1 at hr1 ⊢
 have hl1:=hr1.len
 obtain⟨n0,hn0⟩:=getq (l:=cnt) (k:=m.pc) a6
 have hcg:(kB cnt)[m.pc]? = some (.d (.int .i64 n0)):=by unfold kB;rw[x7,hn0];rfl
 have hcl2:(kB cnt).length=code.length:=by unfold kB;rw[j5,hcn]
 have hc0:=hr1.c0
 have hc27:=hr1.c27
 simp only[go_sem,hg,hc0,hc27,hco,hp00,C2,J1,hcg]
 refine⟨hlt,hlt,a6,?_⟩
 have h1:Wn gr code inp { m with steps:=m.steps+1 } g (upd (upd ob 13 (some cs1)) 47 (some ((kB cnt).set m.pc (.d (.int .i64 (IntKind.i64.wrap (n0+1))))))):=
  ⟨hg,cs1,mi,xc,cnt.set m.pc (IntKind.i64.wrap (n0+1)),by simp[upd],hr1,hmi,by rcases hmi with rfl|rfl <;> simpa[upd] using hmo,by simp[upd,kB,List.map_set],by rw[C4,hcn],by simpa[upd] using hmore⟩
 have hfr:∀i,i≠13→i≠47→(upd (upd ob 13 (some cs1)) 47 (some ((kB cnt).set m.pc (.d (.int .i64 (IntKind.i64.wrap (n0+1))))))) i=ob i:=fun i a b=>by simp only[upd];rw[if_neg b,if_neg a]
 have ho1:(upd (upd ob 13 (some cs1)) 47 (some ((kB cnt).set m.pc (.d (.int .i64 (IntKind.i64.wrap (n0+1))))))) 13=some cs1:=by simp[upd]
 have hmo1:(upd (upd ob 13 (some cs1)) 47 (some ((kB cnt).set m.pc (.d (.int .i64 (IntKind.i64.wrap (n0+1))))))) mi=some (gW m.mem):=by rcases hmi with rfl|rfl <;> simpa[upd] using hmo
 have hmore1:xc=.osl 38 (g 38) 1 0 m.out.length∧(upd (upd ob 13 (some cs1)) 47 (some ((kB cnt).set m.pc (.d (.int .i64 (IntKind.i64.wrap (n0+1))))))) 38=some (kZ m.out):=by simpa[upd] using hmore
 obtain⟨cnt1,hco1,hcn1⟩:∃cnt1,(upd (upd ob 13 (some cs1)) 47 (some ((kB cnt).set m.pc (.d (.int .i64 (IntKind.i64.wrap (n0+1))))))) 47=some (kB cnt1)∧cnt1.length=code.length:=⟨cnt.set m.pc (IntKind.i64.wrap (n0+1)),by simp[upd,kB,List.map_set],by rw[C4,hcn]⟩
 generalize upd (upd ob 13 (some cs1)) 47 (some ((kB cnt).set m.pc (.d (.int .i64 (IntKind.i64.wrap (n0+1))))))=ob1 at h1 hfr ho1 hmo1 hmore1 hco1 ⊢
 have hg1:Mach.Good { m with steps:=m.steps+1 }:=⟨hg9.len,hg9.reg,hg9.mem,by have:=hg9.pc;show m.pc≤4294967296+(m.steps+1);omega,hg9.out,hg9.fin⟩
 have hs:jQ okI code inp m=if okW w=true then doM code inp { m with steps:=m.steps+1 } (w/16777216) (w/1048576%16) (w/65536%16) (w%65536) else { m with steps:=m.steps+1,fin:=6 }:=by
  unfold jQ okW;rw[hw]
 rw[hs]
 have hci:mv w=mv w:=rfl
 conv at hci=>rhs;unfold mv
 have hc23:=hr1.c23
 have hc24:=hr1.c24
 clear hcs1 hs hcg hco hcn hn0 hcl2 hr hmore hmo ho
 refine eX ac mixed [3002] [([0],[0],[],false),([56],[0],[],false),([57],[0],[],false),([58],[0],[],false),([0],[0],[],false),([60],[0],[],false),([61],[0],[],false),([62],[0],[],false),([63],[0],[],false),([59,64],[0],[],false),([65],[0],[],false),([],[],[0],false),([2,66],[],[],true)] 1 c9 rfl a8 ?_
 simp only[go_sem]
 cases hR:okW w
 ·rw[hR,if_neg a7] at hci
  rw[if_neg a7]
  iterate 9 (apply aG;· (intro fa ga oa K' hK;simp only[go_sem,hg,ho1,hc0,hc23] at hK ⊢;exact hK))
  iterate 2 (apply aG;· (intro fa ga oa K' hK;simp only[go_sem,hp00,hw,w8,hci] at hK ⊢;exact hK))
  (apply ce;· (intro fa ga oa K' hK;simp only[go_sem] at hK ⊢;exact hK))
  apply cj
  intro K' hK'
  simp only[go_sem]
  refine hK' _ ?_
  clear hK' K'
  simp only[go_sem]
  refine bF c9 ?_
  simp only[go_sem,hg,ho1,hc0,hc24,hp00,hw,w8,hR]
  exact⟨a6,ba (.inl rfl) (FrW.from (h1.done (m':={ m with steps:=m.steps+1,fin:=6 }) ho1 (fun i hi=>by (try simp only[upd]);repeat (rw[if_neg (by omega)]);try rfl) (fun i hi=>by (try simp only[upd]);repeat (rw[if_neg (by omega)]);try rfl) (by simp[upd] <;> rfl) rfl rfl fun _ _ _ hr=>hr.setFin 6) hfr)⟩
 ·rw[hR,if_pos rfl] at hci
  rw[if_pos rfl]
  obtain⟨p1,p2,p3⟩:=Bd (show okI (w/16777216) (w/1048576%16) (w/65536%16) (w%65536)=true from hR)
  have ha:w/1048576%16<16:=a6
  have hb:w/65536%16<16:=a6
  have hc:w%65536<65536:=a6
  generalize w/16777216=op at hci p1 p2 p3 ⊢
  generalize w/1048576%16=a at hci p3 ha ⊢
  generalize w/65536%16=b at hci p3 hb ⊢
  generalize w%65536=c at hci p3 hc ⊢
  iterate 9 (apply aG;· (intro fa ga oa K' hK;simp only[go_sem,hg,ho1,hc0,hc23] at hK ⊢;exact hK))
  iterate 2 (apply aG;· (intro fa ga oa K' hK;simp only[go_sem,hp00,hw,w8,hci] at hK ⊢;exact hK))
  (apply ce;· (intro fa ga oa K' hK;simp only[go_sem] at hK ⊢;exact hK))
  apply cj
  intro K' hK'
  simp only[go_sem]
  refine hK' _ ?_
  clear hK' K'
  simp only[go_sem]
  refine bF c9 ?_
  simp only[go_sem,hg,ho1,hc0,hc24,hp00,hw,w8,hR]
  refine bF c9 ?_
  have ra:=hr1.rg a ha
  have ha0:(0:Int)≤(a:Int):=a6
  have rb:=hr1.rg b hb
  have hb0:(0:Int)≤(b:Int):=a6
  have hpc:m.pc≤4294967296000000:=by have:=hg9.pc;omega
  have rlt:=hg9.r a
  have rblt:=hg9.r b
  have hset:=fun g2 ob2 (h2:Wn gr code inp { m with steps:=m.steps+1 } g2 ob2) (x:Nat)=>IJ h2 a x ha hpc
  have hjump:=fun g2 ob2 (h2:Wn gr code inp { m with steps:=m.steps+1 } g2 ob2) (y:Bool)=>KC h2 y c hpc
  have hwc:IntKind.u32.wrap ((c:Nat):Int)=((c:Nat):Int):=cp a6
  change cs1[1+a]? = some (.d (.int .u32 (m.r a:Nat))) at ra
  change cs1[1+b]? = some (.d (.int .u32 (m.r b:Nat))) at rb
  have fin:∀{g2:Nat→Nat}{ob2:Obs}{m':M}{g':Nat→Nat}{ob':Obs},(∀i,i<3000→g2 i=g i)→(∀i,i<3000→ob2 i=ob1 i)→FrW g2 ob2 g' ob'→Wn gr code inp m' g' ob'→FrW g ob g' ob'∧Wn gr code inp m' g' ob':=fun e1 e2 f1 f2=>
   FrW.from (ob1:=ob1) ⟨fun i hi h13 h24 h27 h47 h38=>by have:=f1 i hi h13 h24 h27 h47 h38;rw[e1 i hi,e2 i hi] at this;exact this,f2⟩ hfr
  by_cases o1:op=1
  ·subst o1
   rw[show doM code inp { m with steps:=m.steps+1 } 1 a b c=({ m with steps:=m.steps+1 }:M).set a c from rfl]
   simp only[go_sem,hg,ho1,ra,ha0,hwc]
   refine⟨a6,?_⟩
   refine bH rfl (by simp only[go_sem];exact hset _ _ (h1.same (fun i hi=>by (try simp only[upd]);repeat (rw[if_neg (by omega)]);try rfl) (fun i hi=>by (try simp only[upd]);repeat (rw[if_neg (by omega)]);try rfl)) c) ?_
   rintro r g' ob' ⟨f1,f2⟩
   simp only[go_sem]
   exact ba (.inr rfl) (fin (fun i hi=>by (try simp only[upd]);repeat (rw[if_neg (by omega)]);try rfl) (fun i hi=>by (try simp only[upd]);repeat (rw[if_neg (by omega)]);try rfl) f1 f2)
  by_cases o2:op=2
  ·subst o2
   rw[show doM code inp { m with steps:=m.steps+1 } 2 a b c=({ m with steps:=m.steps+1 }:M).set a (m.r a%65536+c*65536) from rfl]
   have e1:((m.r a:Nat):Int).tmod 65536=((m.r a%65536:Nat):Int):=rfl
   have e2:IntKind.u32.wrap ((c:Int)*65536)=((c*65536:Nat):Int):=by rw[IntKind.wrap_u32];omega
   have e3:IntKind.u32.wrap (((m.r a%65536:Nat):Int)+((c*65536:Nat):Int))=((m.r a%65536+c*65536:Nat):Int):=by rw[IntKind.wrap_u32];omega
   have e4:IntKind.u32.wrap ((m.r a%65536:Nat):Int)=((m.r a%65536:Nat):Int):=cp a6
   simp only[go_sem,hg,ho1,ra,ha0,hwc,e1,e2,e3,e4]
   refine⟨a6,?_⟩
   refine bH rfl (by simp only[go_sem];exact hset _ _ (h1.same (fun i hi=>by (try simp only[upd]);repeat (rw[if_neg (by omega)]);try rfl) (fun i hi=>by (try simp only[upd]);repeat (rw[if_neg (by omega)]);try rfl)) (m.r a%65536+c*65536)) ?_
   rintro r g' ob' ⟨f1,f2⟩
   simp only[go_sem]
   exact ba (.inr rfl) (fin (fun i hi=>by (try simp only[upd]);repeat (rw[if_neg (by omega)]);try rfl) (fun i hi=>by (try simp only[upd]);repeat (rw[if_neg (by omega)]);try rfl) f1 f2)
  by_cases o3:op=3
  ·subst o3
   rw[show doM code inp { m with steps:=m.steps+1 } 3 a b c=({ m with steps:=m.steps+1 }:M).set a (m.r b) from rfl]
   simp only[go_sem,hg,ho1,ra,ha0]
   refine⟨a6,?_⟩
   refine bF c9 ?_
   simp only[go_sem,hg,ho1,rb,hb0]
   refine⟨a6,?_⟩
   refine bH rfl (by simp only[go_sem];exact hset _ _ (h1.same (fun i hi=>by (try simp only[upd]);repeat (rw[if_neg (by omega)]);try rfl) (fun i hi=>by (try simp only[upd]);repeat (rw[if_neg (by omega)]);try rfl)) (m.r b)) ?_
   rintro r g' ob' ⟨f1,f2⟩
   simp only[go_sem]
   exact ba (.inr rfl) (fin (fun i hi=>by (try simp only[upd]);repeat (rw[if_neg (by omega)]);try rfl) (fun i hi=>by (try simp only[upd]);repeat (rw[if_neg (by omega)]);try rfl) f1 f2)
  by_cases o18:op=18
  ·subst o18
   rw[show doM code inp { m with steps:=m.steps+1 } 18 a b c = { m with steps:=m.steps+1,pc:=c } from rfl]
   simp only[go_sem,hg,ho1,ra,ha0]
   exact⟨a6,a6,ba (.inr rfl) (FrW.from (h1.done (m':={ m with steps:=m.steps+1,pc:=c }) ho1 (fun i hi=>by (try simp only[upd]);repeat (rw[if_neg (by omega)]);try rfl) (fun i hi=>by (try simp only[upd]);repeat (rw[if_neg (by omega)]);try rfl) (by simp[upd] <;> rfl) rfl rfl fun _ _ _ hr=>hr.setPc c) hfr)⟩
  by_cases o19:op=19
  ·subst o19
   rw[show doM code inp { m with steps:=m.steps+1 } 19 a b c = { m with steps:=m.steps+1,pc:=if m.r a=0 then c else m.pc+1 } from rfl]
   by_cases hz:m.r a=0
   ·have hzi:((m.r a:Nat):Int)=0:=a6
    rw[if_pos hz]
    simp only[go_sem,hg,ho1,ra,ha0,hzi]
    refine⟨a6,?_⟩
    refine bH rfl (by simp only[go_sem];exact hjump _ _ (h1.same (fun i hi=>by (try simp only[upd]);repeat (rw[if_neg (by omega)]);try rfl) (fun i hi=>by (try simp only[upd]);repeat (rw[if_neg (by omega)]);try rfl)) true) ?_
    rintro r g' ob' ⟨f1,f2⟩
    simp only[go_sem]
    exact ba (.inr rfl) (fin (fun i hi=>by (try simp only[upd]);repeat (rw[if_neg (by omega)]);try rfl) (fun i hi=>by (try simp only[upd]);repeat (rw[if_neg (by omega)]);try rfl) f1 f2)
   ·have hzi:¬((m.r a:Nat):Int)=0:=a6
    rw[if_neg hz]
    simp only[go_sem,hg,ho1,ra,ha0,hzi]
    refine⟨a6,?_⟩
    refine bH rfl (by simp only[go_sem];exact hjump _ _ (h1.same (fun i hi=>by (try simp only[upd]);repeat (rw[if_neg (by omega)]);try rfl) (fun i hi=>by (try simp only[upd]);repeat (rw[if_neg (by omega)]);try rfl)) false) ?_
    rintro r g' ob' ⟨f1,f2⟩
    simp only[go_sem]
    exact ba (.inr rfl) (fin (fun i hi=>by (try simp only[upd]);repeat (rw[if_neg (by omega)]);try rfl) (fun i hi=>by (try simp only[upd]);repeat (rw[if_neg (by omega)]);try rfl) f1 f2)
  by_cases o20:op=20
  ·subst o20
   rw[show doM code inp { m with steps:=m.steps+1 } 20 a b c = { m with steps:=m.steps+1,pc:=if m.r a=0 then m.pc+1 else c } from rfl]
   by_cases hz:m.r a=0
   ·have hzi:((m.r a:Nat):Int)=0:=a6
    rw[if_pos hz]
    simp only[go_sem,hg,ho1,ra,ha0,hzi]
    refine⟨a6,?_⟩
    refine bH rfl (by simp only[go_sem];exact hjump _ _ (h1.same (fun i hi=>by (try simp only[upd]);repeat (rw[if_neg (by omega)]);try rfl) (fun i hi=>by (try simp only[upd]);repeat (rw[if_neg (by omega)]);try rfl)) false) ?_
    rintro r g' ob' ⟨f1,f2⟩
    simp only[go_sem]
    exact ba (.inr rfl) (fin (fun i hi=>by (try simp only[upd]);repeat (rw[if_neg (by omega)]);try rfl) (fun i hi=>by (try simp only[upd]);repeat (rw[if_neg (by omega)]);try rfl) f1 f2)
   ·have hzi:¬((m.r a:Nat):Int)=0:=a6
    rw[if_neg hz]
    simp only[go_sem,hg,ho1,ra,ha0,hzi]
    refine⟨a6,?_⟩
    refine bH rfl (by simp only[go_sem];exact hjump _ _ (h1.same (fun i hi=>by (try simp only[upd]);repeat (rw[if_neg (by omega)]);try rfl) (fun i hi=>by (try simp only[upd]);repeat (rw[if_neg (by omega)]);try rfl)) true) ?_
    rintro r g' ob' ⟨f1,f2⟩
    simp only[go_sem]
    exact ba (.inr rfl) (fin (fun i hi=>by (try simp only[upd]);repeat (rw[if_neg (by omega)]);try rfl) (fun i hi=>by (try simp only[upd]);repeat (rw[if_neg (by omega)]);try rfl) f1 f2)
  by_cases o22:op=22
  ·subst o22
   rw[show doM code inp { m with steps:=m.steps+1 } 22 a b c = { m with steps:=m.steps+1,pc:=m.r a } from rfl]
   have hwr:IntKind.i64.wrap ((m.r a:Nat):Int)=((m.r a:Nat):Int):=by rw[wrap_i64] <;> omega
   simp only[go_sem,hg,ho1,ra,ha0,hwr]
   exact⟨a6,a6,ba (.inr rfl) (FrW.from (h1.done (m':={ m with steps:=m.steps+1,pc:=m.r a }) ho1 (fun i hi=>by (try simp only[upd]);repeat (rw[if_neg (by omega)]);try rfl) (fun i hi=>by (try simp only[upd]);repeat (rw[if_neg (by omega)]);try rfl) (by simp[upd] <;> rfl) rfl rfl fun _ _ _ hr=>hr.setPc (m.r a)) hfr)⟩
  by_cases o26:op=26
  ·subst o26
   rw[show doM code inp { m with steps:=m.steps+1 } 26 a b c = { m with steps:=m.steps+1,fin:=1 } from rfl]
   simp only[go_sem,hg,ho1,ra,ha0]
   exact⟨a6,a6,ba (.inr rfl) (FrW.from (h1.done (m':={ m with steps:=m.steps+1,fin:=1 }) ho1 (fun i hi=>by (try simp only[upd]);repeat (rw[if_neg (by omega)]);try rfl) (fun i hi=>by (try simp only[upd]);repeat (rw[if_neg (by omega)]);try rfl) (by simp[upd] <;> rfl) rfl rfl fun _ _ _ hr=>hr.setFin 1) hfr)⟩
  by_cases o25:op=25
  ·subst o25
   rw[show doM code inp { m with steps:=m.steps+1 } 25 a b c=(if c≤m.r a then({ m with steps:=m.steps+1,fin:=3 }:M) else { m with steps:=m.steps+1,pc:=m.pc+1 }) from rfl]
   have hwp:=ai (k:=m.pc) a6
   by_cases hz:c≤m.r a
   ·have hzi:((c:Nat):Int)≤((m.r a:Nat):Int):=a6
    rw[if_pos hz]
    simp only[go_sem,hg,ho1,ra,ha0,hwc,hzi]
    exact⟨a6,a6,ba (.inl rfl) (FrW.from (h1.done (m':={ m with steps:=m.steps+1,fin:=3 }) ho1 (fun i hi=>by (try simp only[upd]);repeat (rw[if_neg (by omega)]);try rfl) (fun i hi=>by (try simp only[upd]);repeat (rw[if_neg (by omega)]);try rfl) (by simp[upd] <;> rfl) rfl rfl fun _ _ _ hr=>hr.setFin 3) hfr)⟩
   ·have hzi:¬((c:Nat):Int)≤((m.r a:Nat):Int):=a6
    rw[if_neg hz]
    simp only[go_sem,hg,ho1,ra,ha0,hwc,hzi,hc0,hwp]
    exact⟨a6,a6,ba (.inr rfl) (FrW.from (h1.done (m':={ m with steps:=m.steps+1,pc:=m.pc+1 }) ho1 (fun i hi=>by (try simp only[upd]);repeat (rw[if_neg (by omega)]);try rfl) (fun i hi=>by (try simp only[upd]);repeat (rw[if_neg (by omega)]);try rfl) (by simp[upd] <;> rfl) rfl rfl fun _ _ _ hr=>hr.setPc (m.pc+1)) hfr)⟩
  by_cases o21:op=21
  ·subst o21
   rw[show doM code inp { m with steps:=m.steps+1 } 21 a b c = { m with steps:=m.steps+1,reg:=m.reg.set a ((m.pc+1)%4294967296),pc:=c } from rfl]
   have e1:IntKind.u32.wrap ((m.pc:Nat):Int)=((m.pc%4294967296:Nat):Int):=w32 _
   have e2:IntKind.u32.wrap (((m.pc%4294967296:Nat):Int)+1)=(((m.pc+1)%4294967296:Nat):Int):=by rw[IntKind.wrap_u32];omega
   simp only[go_sem,hg,ho1,ra,ha0]
   refine⟨a6,?_⟩
   refine bF c9 ?_
   simp only[go_sem,hg,ho1,hc0,ha0,e1,e2]
   refine⟨a6,a6,?_⟩
   exact⟨by simp only[C4];omega,ba (.inr rfl) (FrW.from (h1.done (m':={ m with steps:=m.steps+1,reg:=m.reg.set a ((m.pc+1)%4294967296),pc:=c }) ho1 (fun i hi=>by (try simp only[upd]);repeat (rw[if_neg (by omega)]);try rfl) (fun i hi=>by (try simp only[upd]);repeat (rw[if_neg (by omega)]);try rfl) (by simp[upd] <;> rfl) rfl rfl fun _ _ _ hr=>(hr.setReg ha _).setPc c) hfr)⟩
  by_cases o23:op=23
  ·subst o23
   have hrd0:¬(m.rd:Int)<0:=a6
   have hrd00:(0:Int)≤(m.rd:Int):=a6
   have hwrd:=ai (k:=m.rd) a6
   have hc18:=hr1.c18
   have hc26:=hr1.c26
   cases hx:inp[m.rd]? with
   |none=>
     have hle':(inp.length:Int)≤(m.rd:Int):=by have:=List.getElem?_eq_none_iff.1 hx;omega
     rw[show doM code inp { m with steps:=m.steps+1 } 23 a b c=({ m with steps:=m.steps+1 }:M).set a 256 by show (match inp[m.rd]? with|some x=>_|none=>_)=_;rw[hx]]
     simp only[go_sem,hg,ho1,ra,ha0]
     refine⟨a6,?_⟩
     refine bF c9 ?_
     simp only[go_sem,hg,ho1,hc18,hc26,hrd0,hle']
     refine bH rfl (by simp only[go_sem];exact hset _ _ (h1.same (fun i hi=>by (try simp only[upd]);repeat (rw[if_neg (by omega)]);try rfl) (fun i hi=>by (try simp only[upd]);repeat (rw[if_neg (by omega)]);try rfl)) 256) ?_
     rintro r g' ob' ⟨f1,f2⟩
     simp only[go_sem]
     exact ba (.inl rfl) (fin (fun i hi=>by (try simp only[upd]);repeat (rw[if_neg (by omega)]);try rfl) (fun i hi=>by (try simp only[upd]);repeat (rw[if_neg (by omega)]);try rfl) f1 f2)
   |some x=>
     have hltx:=(l0.1 hx).1
     have hle':¬(inp.length:Int)≤(m.rd:Int):=a6
     have hx8:=x.toNat_lt
     rw[show doM code inp { m with steps:=m.steps+1 } 23 a b c=({ m with steps:=m.steps+1,rd:=m.rd+1 }:M).set a x.toNat by show (match inp[m.rd]? with|some x=>_|none=>_)=_;rw[hx];rfl]
     simp only[go_sem,hg,ho1,ra,ha0]
     refine⟨a6,?_⟩
     refine bF c9 ?_
     simp only[go_sem,hg,ho1,hc18,hc26,hrd0,hle']
     refine bF c9 ?_
     simp only[go_sem,hg,ho1,hc18,hc26,hrd00,hx,hwrd,cp (show x.toNat<4294967296 by omega)]
     refine⟨a6,?_⟩
     refine bH rfl (by simp only[go_sem];exact IJ (m:={ m with steps:=m.steps+1,rd:=m.rd+1 }) ((h1.done (m':={ m with steps:=m.steps+1,rd:=m.rd+1 }) ho1 (fun i hi=>by (try simp only[upd]);repeat (rw[if_neg (by omega)]);try rfl) (fun i hi=>by (try simp only[upd]);repeat (rw[if_neg (by omega)]);try rfl) (by simp[upd] <;> rfl) rfl rfl fun _ _ _ hr=>hr.setRd (m.rd+1)).2) a x.toNat ha hpc) ?_
     rintro r g' ob' ⟨f1,f2⟩
     simp only[go_sem]
     refine ba (.inr rfl) (FrW.from (ob1:=ob1) ⟨fun i hi h13 h24 h27 h47 h38=>?_,f2⟩ hfr)
     have:=f1 i hi h13 h24 h27 h47 h38
     simp only[upd] at this
     repeat rw[if_neg (by omega)] at this
     exact this
  by_cases o16:op=16
  ·subst o16
   have hc17:=hr1.c17
   have hF:=zP m.mem (m.r b) c hml hc
   have hmi2:mi≠13∧mi≠3002:=a6
   simp only[go_sem,hg,ho1,ra,ha0]
   refine⟨a6,?_⟩
   simp only[go_sem,hg,ho1,hc17]
   refine eW ac mixed c9 ?_
   simp only[go_sem,hg,ho1,rb,hb0]
   refine⟨a6,?_⟩
   have hfz:∀{s:St} (x y:D),s.gen mi=g mi→s.obj mi=some (gW m.mem)→cH s [.one (.osl mi (g mi) 1 0 m.mem.length),.one (.d x),.one (.d y)] [.one (.d (jD m.mem)),.one (.d (fh x)),.one (.d (fh y))]:=fun x y e1 e2=>
    KL (vg (qB (cells:=gW m.mem) (off:=0) e1 e2 m.mem (fun n=>.int .u32 (n:Nat)) (fun _=>rfl) rfl (fun j a h=>by rw[C2];unfold gW;rw[x7,h];rfl) (by unfold gW;rw[j5];omega))) (jf _) (jf _)
   have e1:∀(x:Nat),(upd g 3002 x) mi=g mi:=fun x=>by simp only[upd];rw[if_neg hmi2.2]
   cases hx:m.mem[(m.r b+c)%4294967296]? with
   |none=>
     rw[hx] at hF
     unfold yF at hF
     rw[show doM code inp { m with steps:=m.steps+1 } 16 a b c = { m with steps:=m.steps+1,fin:=8 } by show (match m.mem[(m.r b+c)%4294967296]? with|some x=>_|none=>_)=_;rw[hx]]
     refine bT rfl hF (by simp only[go_sem];exact hfz _ _ (e1 _) (by simp only[upd];(repeat rw[if_neg hmi2.2]);exact hmo1)) rfl ?_
     simp only[go_sem,hg,ho1]
     exact⟨a6,ba (.inl rfl) (FrW.from (h1.done (m':={ m with steps:=m.steps+1,fin:=8 }) ho1 (fun i hi=>by (try simp only[upd]);repeat (rw[if_neg (by omega)]);try rfl) (fun i hi=>by (try simp only[upd]);repeat (rw[if_neg (by omega)]);try rfl) (by simp[upd] <;> rfl) rfl rfl fun _ _ _ hr=>hr.setFin 8) hfr)⟩
   |some x=>
     rw[hx] at hF
     unfold yF at hF
     rw[show doM code inp { m with steps:=m.steps+1 } 16 a b c=({ m with steps:=m.steps+1 }:M).set a x by show (match m.mem[(m.r b+c)%4294967296]? with|some x=>_|none=>_)=_;rw[hx]]
     refine bT rfl hF (by simp only[go_sem];exact hfz _ _ (e1 _) (by simp only[upd];(repeat rw[if_neg hmi2.2]);exact hmo1)) rfl ?_
     simp only[go_sem,hg,ho1]
     refine bH rfl (by simp only[go_sem];exact hset _ _ (h1.same (fun i hi=>by (try simp only[upd]);repeat (rw[if_neg (by omega)]);try rfl) (fun i hi=>by (try simp only[upd]);repeat (rw[if_neg (by omega)]);try rfl)) x) ?_
     rintro r g' ob' ⟨f1,f2⟩
     simp only[go_sem]
     exact ba (.inr rfl) (fin (fun i hi=>by (try simp only[upd]);repeat (rw[if_neg (by omega)]);try rfl) (fun i hi=>by (try simp only[upd]);repeat (rw[if_neg (by omega)]);try rfl) f1 f2)
  by_cases o27:op=27
  ·subst o27
   have hc17:=hr1.c17
   have hc25:=hr1.c25
   have hF:=zP code (m.r b) c hcl hc
   unfold eL at hc25
   unfold jD at hF
   simp only[go_sem,hg,ho1,ra,ha0]
   refine⟨a6,?_⟩
   simp only[go_sem,hg,ho1,hc17,hc25]
   refine eW ac mixed c9 ?_
   simp only[go_sem,hg,ho1,rb,hb0]
   refine⟨a6,?_⟩
   cases hx:code[(m.r b+c)%4294967296]? with
   |none=>
     rw[hx] at hF
     unfold yF at hF
     rw[show doM code inp { m with steps:=m.steps+1 } 27 a b c = { m with steps:=m.steps+1,fin:=8 } by show (match code[(m.r b+c)%4294967296]? with|some x=>_|none=>_)=_;rw[hx]]
     refine bT rfl hF (co rfl) rfl ?_
     simp only[go_sem,hg,ho1]
     exact⟨a6,ba (.inl rfl) (FrW.from (h1.done (m':={ m with steps:=m.steps+1,fin:=8 }) ho1 (fun i hi=>by (try simp only[upd]);repeat (rw[if_neg (by omega)]);try rfl) (fun i hi=>by (try simp only[upd]);repeat (rw[if_neg (by omega)]);try rfl) (by simp[upd] <;> rfl) rfl rfl fun _ _ _ hr=>hr.setFin 8) hfr)⟩
   |some x=>
     rw[hx] at hF
     unfold yF at hF
     rw[show doM code inp { m with steps:=m.steps+1 } 27 a b c=({ m with steps:=m.steps+1 }:M).set a x by show (match code[(m.r b+c)%4294967296]? with|some x=>_|none=>_)=_;rw[hx]]
     refine bT rfl hF (co rfl) rfl ?_
     simp only[go_sem,hg,ho1]
     refine bH rfl (by simp only[go_sem];exact hset _ _ (h1.same (fun i hi=>by (try simp only[upd]);repeat (rw[if_neg (by omega)]);try rfl) (fun i hi=>by (try simp only[upd]);repeat (rw[if_neg (by omega)]);try rfl)) x) ?_
     rintro r g' ob' ⟨f1,f2⟩
     simp only[go_sem]
     exact ba (.inr rfl) (fin (fun i hi=>by (try simp only[upd]);repeat (rw[if_neg (by omega)]);try rfl) (fun i hi=>by (try simp only[upd]);repeat (rw[if_neg (by omega)]);try rfl) f1 f2)
  have hwpc:=ai (k:=m.pc) a6
  by_cases h415:4≤op∧op≤15
  ·have hc16:=p3 h415
   have rc:=hr1.rg c hc16
   change cs1[1+c]? = some (.d (.int .u32 (m.r c:Nat))) at rc
   have hcz:(0:Int)≤(c:Int):=a6
   have hA:=DU op (m.r b) (m.r c) h415.1 h415.2 (hg9.r b) (hg9.r c)
   have hD:doM code inp { m with steps:=m.steps+1 } op a b c=match applyN op (m.r b) (m.r c) with|some x=>({ m with steps:=m.steps+1 }:M).set a x|none=>{ m with steps:=m.steps+1,fin:=2 }:=by
    obtain rfl|rfl|rfl|rfl|rfl|rfl|rfl|rfl|rfl|rfl|rfl|rfl:op=4∨op=5∨op=6∨op=7∨op=8∨op=9∨op=10∨op=11∨op=12∨op=13∨op=14∨op=15:=a6
    all_goals rfl
   rw[hD]
   clear hD
   generalize applyN op (m.r b) (m.r c)=res at hA ⊢
   unfold yr at hA
   have k1:¬(op:Int)=1:=a6
   have k2:¬(op:Int)=2:=a6
   have k3:¬(op:Int)=3:=a6
   have k16:¬(op:Int)=16:=a6
   have k17:¬(op:Int)=17:=a6
   have k18:¬(op:Int)=18:=a6
   have k19:¬(op:Int)=19:=a6
   have k20:¬(op:Int)=20:=a6
   have k21:¬(op:Int)=21:=a6
   have k22:¬(op:Int)=22:=a6
   have k23:¬(op:Int)=23:=a6
   have k24:¬(op:Int)=24:=a6
   have k25:¬(op:Int)=25:=a6
   have k26:¬(op:Int)=26:=a6
   have k27:¬(op:Int)=27:=a6
   simp only[go_sem,hg,ho1,ra,ha0,k1,k2,k3,k16,k17,k18,k19,k20,k21,k22,k23,k24,k25,k26,k27]
   refine⟨a6,?_⟩
   refine eW ac mixed c9 ?_
   simp only[go_sem,hg,ho1,rb,rc,hb0,hcz]
   refine⟨a6,a6,?_⟩
   cases res with
   |none=>
     refine bT rfl hA (co rfl) rfl ?_
     simp only[go_sem,hg,ho1]
     exact⟨a6,ba (.inl rfl) (FrW.from (h1.done (m':={ m with steps:=m.steps+1,fin:=2 }) ho1 (fun i hi=>by (try simp only[upd]);repeat (rw[if_neg (by omega)]);try rfl) (fun i hi=>by (try simp only[upd]);repeat (rw[if_neg (by omega)]);try rfl) (by simp[upd] <;> rfl) rfl rfl fun _ _ _ hr=>hr.setFin 2) hfr)⟩
   |some x=>
     refine bT rfl hA (co rfl) rfl ?_
     simp only[go_sem,hg,ho1]
     refine bH rfl (by simp only[go_sem];exact hset _ _ (h1.same (fun i hi=>by (try simp only[upd]);repeat (rw[if_neg (by omega)]);try rfl) (fun i hi=>by (try simp only[upd]);repeat (rw[if_neg (by omega)]);try rfl)) x) ?_
     rintro r g' ob' ⟨f1,f2⟩
     simp only[go_sem]
     exact ba (.inr rfl) (fin (fun i hi=>by (try simp only[upd]);repeat (rw[if_neg (by omega)]);try rfl) (fun i hi=>by (try simp only[upd]);repeat (rw[if_neg (by omega)]);try rfl) f1 f2)
  by_cases o17:op=17
  ·subst o17
   have hc17:=hr1.c17
   have hmi2:mi≠13∧mi≠3002∧mi≠47∧mi≠38:=a6
   have e2:=vd (m.r b) c
   have hat:(m.r b+c)%4294967296<4294967296:=Nat.mod_lt _ a8
   rw[show doM code inp { m with steps:=m.steps+1 } 17 a b c=(if (m.r b+c)%4294967296<m.mem.length then({ m with steps:=m.steps+1,mem:=m.mem.set ((m.r b+c)%4294967296) (m.r a),pc:=m.pc+1 }:M) else { m with steps:=m.steps+1,fin:=8 }) from rfl]
   generalize (m.r b+c)%4294967296=at' at e2 hat ⊢
   have e3:=w64 (n:=at') a6
   have e4:=w64 (n:=m.mem.length) a6
   have hat0:(0:Int)≤(at':Int):=a6
   simp only[go_sem,hg,ho1,ra,ha0]
   refine⟨a6,?_⟩
   refine bF c9 ?_
   by_cases hz:at'<m.mem.length
   ·have hzi:¬(m.mem.length:Int)≤(at':Int):=a6
    have hwl:(gW m.mem).length=m.mem.length:=by unfold gW;rw[j5]
    rw[if_pos hz]
    simp only[go_sem,hg,ho1,rb,hb0,hwc,e2,hc17,e3,e4,hzi,hat0,hmo1,hmi2.2.1,z6 hmi2.1,C2,J1,hc0,hwpc]
    refine⟨a6,hz,a6,?_⟩
    refine⟨a6,ba (.inr rfl) (FrW.from (ob1:=ob1) ⟨fun i hi h13 h24 h27 h47 h38=>⟨(fun i hi=>by (try simp only[upd]);repeat (rw[if_neg (by omega)]);try rfl) i hi,by simp only[upd];(repeat rw[if_neg (by omega)])⟩,⟨by simp[upd,hg],cs1.set 0 (.d (.int .i64 (m.pc+1:Nat))),mi,xc,cnt1,by simp[upd],?_,hmi,?_,?_,hcn1,?_⟩⟩ hfr)⟩
    ·have hp:=hr1.setPc (m.pc+1)
     simp only[upd,C4]
     (repeat rw[if_neg (by omega)])
     exact⟨hp.len,hp.c0,hp.rl,hp.rg,hp.c17,hp.c18,hp.c19,hp.c20,hp.c21,hp.c22,hp.c23,hp.c24,hp.c25,hp.c26,hp.c27⟩
    ·simp only[upd];(repeat rw[if_neg (by omega)]);simp[gW,List.map_set]
    ·simp only[upd];(repeat rw[if_neg (by omega)]);exact hco1
    ·simp only[upd];(repeat rw[if_neg (by omega)]);exact hmore1
   ·have hzi:(m.mem.length:Int)≤(at':Int):=a6
    rw[if_neg hz]
    simp only[go_sem,hg,ho1,rb,hb0,hwc,e2,hc17,e3,e4,hzi,hmi2.2.1,hmo1]
    exact⟨a6,a6,ba (.inl rfl) (FrW.from (h1.done (m':={ m with steps:=m.steps+1,fin:=8 }) ho1 (fun i hi=>by (try simp only[upd]);repeat (rw[if_neg (by omega)]);try rfl) (fun i hi=>by (try simp only[upd]);repeat (rw[if_neg (by omega)]);try rfl) (by simp[upd] <;> rfl) rfl rfl fun _ _ _ hr=>hr.setFin 8) hfr)⟩
  by_cases o24:op=24
  ·subst o24
   have hc22:=hr1.c22
   have hol:=hg9.out
   rw[show doM code inp { m with steps:=m.steps+1 } 24 a b c=(if 65536≤m.out.length then({ m with steps:=m.steps+1,fin:=4 }:M) else { m with steps:=m.steps+1,out:=m.out++[UInt8.ofNat (m.r a)],pc:=m.pc+1 }) from rfl]
   have e1:((m.r a:Nat):Int).tmod 256=((m.r a%256:Nat):Int):=rfl
   have e2:IntKind.u32.wrap ((m.r a%256:Nat):Int)=((m.r a%256:Nat):Int):=cp a6
   have e3:IntKind.u8.wrap ((m.r a%256:Nat):Int)=((m.r a%256:Nat):Int):=by rw[IntKind.wrap_u8];omega
   have hb8:(UInt8.ofNat (m.r a)).toNat=m.r a%256:=by rw[UInt8.toNat_ofNat']
   obtain⟨rfl,x3⟩:=hmore1
   have hbl:(kZ m.out).length=m.out.length:=by unfold kZ;rw[j5]
   by_cases hfull:65536≤m.out.length
   ·have hfi:(65536:Int)≤(m.out.length:Int):=a6
    rw[if_pos hfull]
    simp only[go_sem,hg,ho1,ra,ha0,hc22,x3,hfi]
    exact⟨a6,a6,ba (.inl rfl) (FrW.from (h1.done (m':={ m with steps:=m.steps+1,fin:=4 }) ho1 (fun i hi=>by (try simp only[upd]);repeat (rw[if_neg (by omega)]);try rfl) (fun i hi=>by (try simp only[upd]);repeat (rw[if_neg (by omega)]);try rfl) (by simp[upd] <;> rfl) rfl rfl fun _ _ _ hr=>hr.setFin 4) hfr)⟩
   ·have hfi:¬(65536:Int)≤(m.out.length:Int):=a6
    rw[if_neg hfull]
    have h220:∀x,(cs1.set 22 x)[0]? = some (.d (.int .i64 (m.pc:Nat))):=fun x=>by rw[aq a6];exact hc0
    simp only[go_sem,hg,ho1,ra,ha0,hc22,x3,hfi,e1,e2,e3,aH,h220,hwpc]
    have hmi2:mi≠13∧mi≠3002∧mi≠47∧mi≠38:=a6
    refine⟨a6,a6,⟨a8,a6⟩,a6,by simp only[C4];omega,ba (.inr rfl) (FrW.from (ob1:=ob1) ⟨fun i hi h13 h24 h27 h47 h38=>⟨by simp only[upd];(repeat rw[if_neg (by omega)]),by simp only[upd];(repeat rw[if_neg (by omega)])⟩,⟨by simp[upd,hg],(cs1.set 22 (.osl 38 (nxC (apC 5 (g 38) 0) (g 38)) 1 0 (m.out.length+1))).set 0 (.d (.int .i64 (m.pc+1:Nat))),mi,(.osl 38 (nxC (apC 5 (g 38) 0) (g 38)) 1 0 (m.out.length+1)),cnt1,by simp[upd],?_,hmi,?_,?_,hcn1,?_,?_⟩⟩ hfr)⟩
    ·have hp:=(hr1.setOut (.osl 38 (nxC (apC 5 (g 38) 0) (g 38)) 1 0 (m.out.length+1)) (m.out++[UInt8.ofNat (m.r a)])).setPc (m.pc+1)
     simp only[upd]
     (repeat rw[if_neg (by omega)])
     exact hp
    ·simp only[upd];(repeat rw[if_neg (by omega)]);exact hmo1
    ·simp only[upd];(repeat rw[if_neg (by omega)]);exact hco1
    ·simp[upd]
    ·simp only[upd,A9]
     rw[if_neg a8]
     simp[kZ,hb8]
     exact l6 a7
  exfalso
  omega
def Ri (l:List Int):D:=.sl (l.map fun n=>[.int .i64 n])
theorem WC.state {cs cs':List C}{code:List Nat}{inp:Str}{m:M}{mc xc cc:C} (h:WC cs code inp m mc xc cc) (hl:cs'.length=28) (he:∀i,i<22→i≠19→cs'[i]? = cs[i]?) {o:Str} (ho:cs'[19]? = some (.d (.str o))):cs'.take 22=stC { m with out:=o } mc:=by
 have hS:=zO (m:={ m with out:=o }) h.rl mc
 refine L8 fun i=>?_
 rw[G7]
 by_cases hi:i<22
 ·rw[if_pos hi]
  unfold stC
  by_cases h0:i=0
  ·subst h0;exact(he 0 a6 a6).trans h.c0
  by_cases h1:i≤16
  ·obtain⟨a,rfl⟩:∃a,i=a+1:=⟨i-1,a6⟩
   rw[he (a+1) a6 a6,show a+1=1+a by omega,h.rg a a6]
   rw[show 1+a=a+1 by omega,F6 (by simp[h.rl];omega),l5,l8,Q7,x7]
   have:a<m.reg.length:=by rw[h.rl];omega
   rw[s7 this]
   unfold M.r
   rw[A8,s7 this]
   rfl
  ·obtain⟨k,rfl⟩:∃k,i=17+k:=⟨i-17,a6⟩
   rw[B8 (by simp[h.rl])]
   simp only[j5,j6,h.rl]
   rw[show 17+k-(16+1)=k by omega]
   obtain rfl|rfl|rfl|rfl|rfl:k=0∨k=1∨k=2∨k=3∨k=4:=a6
   ·exact(he 17 a6 a6).trans h.c17
   ·exact(he 18 a6 a6).trans h.c18
   ·exact ho
   ·exact(he 20 a6 a6).trans h.c20
   ·exact(he 21 a6 a6).trans h.c21
 ·rw[if_neg hi,C7 a6]
theorem yC (l:List Nat):List.map C.d (l.map fun x=>[D.int .u32 (x:Nat)]).flatten=gW l:=by
 unfold gW
 induction l with
 |nil=>rfl
 |cons a l ih=>simp only[l5,D3,A0,y2,ih]
theorem DQ (n:Nat):(List.replicate n [C.d (.int .i64 0)]).flatten=kB (List.replicate n 0):=by
 unfold kB
 induction n with
 |zero=>rfl
 |succ n ih=>simp only[D6,D3,l5,A0,y2,ih]
theorem KE (code:List Nat) (d:Nat) (inp:Str) (fuel:Nat) (hl:code.length≤1000000) (hcw:∀x∈code,x<4294967296) (hd:d≤32768) (hfu:fuel≤500000000000) :
  aR Tryz.prog 51 [eU (code,d),sv inp,stV (Mach.start d),iv .i64 fuel] (fun r=>∃cnt:List Int,r=.tup [stV (runM okI code inp fuel (Mach.start d)),.one (.d (Ri cnt))]):=by
 refine bM ac mixed Tryz.func51 rfl b9 [.cell 8 78,.tmp 9] rfl c8 (by simp[Tryz.ntmps51]) fun g=>?_
 have hC:=KK code d hl hcw
 have hSl:stV (Mach.start d)=.agg [.d (.int .i64 0),.d (.int .u32 0),.d (.int .u32 0),.d (.int .u32 0),.d (.int .u32 0),.d (.int .u32 0),.d (.int .u32 0),.d (.int .u32 0),.d (.int .u32 0),.d (.int .u32 0),.d (.int .u32 0),.d (.int .u32 0),.d (.int .u32 0),.d (.int .u32 0),.d (.int .u32 0),.d (.int .u32 0),.d (.int .u32 0),.d (jD (List.replicate d 0)),.d (.int .i64 0),.d (.str []),.d (.int .i64 0),.d (.int .i64 0)]:=rfl
 rw[hSl]
 have hWf:=yC (List.replicate d 0)
 have hW1:∀e∈((List.replicate d 0).map fun x=>[D.int .u32 ((x:Nat):Int)]),e.length=1:=fun e he=>by obtain⟨x,_,rfl⟩:=G8.1 he;rfl
 have hWl:((List.replicate d 0).map fun x=>[D.int .u32 ((x:Nat):Int)]).length=d:=a7
 have hmem:(Mach.start d).mem=List.replicate d 0:=rfl
 have hml:(List.replicate d 0).length=d:=H2
 unfold jD
 generalize ((List.replicate d 0).map fun x=>[D.int .u32 ((x:Nat):Int)])=W at hWf hW1 hWl ⊢
 have hc0:(0:Int)≤(code.length:Int):=a6
 unfold eU at hC ⊢
 simp only at hC ⊢
 generalize hI:code.map mv=I at hC
 generalize hO:(code.map fun w=>[D.bool (okW w)])=O at hC
 unfold eL at hC ⊢
 simp only[go_sem]
 refine aA rfl (by simp only[go_sem];exact hC) (by simp only[go_sem];rfl) ?_
 rintro _ rfl
 simp only[go_sem]
 refine eX ac mixed [24,12] [([6],[0,1],[],false),([20],[0,1],[],false),([6],[0,1],[],false),([22],[0,1],[],false),([],[1],[0],false),([6],[0,1],[],false),([25],[0,1],[],false),([24,26],[1],[0],false),([6],[0,1],[],false),([28],[0,1],[],false),([6],[0,1],[],false),([30],[0,1],[],false),([6],[0,1],[],false),([32],[0,1],[],false),([21,23,27,29,31,33],[1],[],false),([],[0],[1],false),([12,34],[],[],true)] 2 c9 rfl a8 ?_
 simp only[go_sem]
 iterate 4 (apply aG;· (intro fa ga oa K' hK;simp only[go_sem] at hK ⊢;exact hK))
 (apply ce;· (intro fa ga oa K' hK;simp only[go_sem,aH] at hK ⊢;exact hK))
 iterate 2 (apply aG;· (intro fa ga oa K' hK;simp only[go_sem] at hK ⊢;exact hK))
 (apply ce;· (intro fa ga oa K' hK;simp only[go_sem,aH] at hK ⊢;exact⟨hW1,⟨a8,a6⟩,hK⟩))
 iterate 7 (apply aG;· (intro fa ga oa K' hK;simp only[go_sem] at hK ⊢;exact hK))
 (apply ce;· (intro fa ga oa K' hK;simp only[go_sem] at hK ⊢;exact hK))
 apply cj
 intro K' hK'
 simp only[go_sem]
 refine hK' _ ?_
 clear hK' K'
 simp only[go_sem]
 refine eX ac mixed [38,47,13] [([12],[0,1,2],[],false),([6],[1,2],[],false),([36],[1,2],[],false),([37],[1,2],[0],false),([10],[0,1,2],[],false),([11],[0,1,2],[],false),([4],[0,1,2],[],false),([41],[0,1,2],[],false),([1],[0,1,2],[],false),([4],[0,2],[],false),([44],[0,2],[],false),([45],[0,2],[],false),([46],[0,2],[1],false),([35,38,39,40,42,43,47],[2],[],false),([],[0,1],[2],false),([13,48],[],[],true)] 3 c9 rfl a8 ?_
 simp only[go_sem]
 iterate 3 (apply aG;· (intro fa ga oa K' hK;simp only[go_sem] at hK ⊢;exact hK))
 (apply ce;· (intro fa ga oa K' hK;simp only[go_sem,aH] at hK ⊢;exact hK))
 iterate 8 (apply aG;· (intro fa ga oa K' hK;simp only[go_sem,j5] at hK ⊢;exact hK))
 (apply ce;· (intro fa ga oa K' hK;simp only[go_sem,hc0] at hK ⊢;exact⟨j9 _,a6,a6,hK⟩))
 (apply aG;· (intro fa ga oa K' hK;simp only[go_sem] at hK ⊢;exact hK))
 (apply ce;· (intro fa ga oa K' hK;simp only[go_sem] at hK ⊢;exact hK))
 apply cj
 intro K' hK'
 simp only[go_sem]
 refine hK' _ ?_
 clear hK' K'
 simp only[go_sem]
 refine dS (fun n st=>∃(k:Nat) (m:M),n+k=fuel∧runM okI code inp fuel (Mach.start d)=runM okI code inp n m∧Mach.Good m∧m.mem.length=d∧m.steps≤k∧m.rd≤k∧Wn (nxC 171 (g 13)) code inp m st.gen st.obj∧st.f 3=iv .i64 fuel∧st.f 14=iv .i64 k∧st.f 13=.one (.ptr 13 (nxC 171 (g 13)) 0)∧st.f 8=.one (.ptr 8 (nxC 79 (g 8)) 0)∧st.gen 8=nxC 79 (g 8)∧∃Z,st.obj 8=some Z∧Z.length=22) fuel ?_ ?_
 ·refine⟨0,Mach.start d,rfl,rfl,nB d,hml,K7 _,K7 _,⟨?_,_,24,_,List.replicate code.length 0,by simp only[upd,A9] <;> rfl,⟨rfl,rfl,rfl,fun a ha=>?_,?_,rfl,rfl,rfl,rfl,rfl,?_,?_,rfl,rfl,?_⟩,.inl rfl,?_,?_,H2,?_,?_⟩,?_⟩
  ·simp only[upd,A9]
  ·obtain rfl|rfl|rfl|rfl|rfl|rfl|rfl|rfl|rfl|rfl|rfl|rfl|rfl|rfl|rfl|rfl:a=0∨a=1∨a=2∨a=3∨a=4∨a=5∨a=6∨a=7∨a=8∨a=9∨a=10∨a=11∨a=12∨a=13∨a=14∨a=15:=a6
   all_goals rfl
  ·rw[show (Mach.start d).mem.length=W.length by rw[hmem,hml,hWl]];rfl
  ·rw[hI];rfl
  ·rw[hO];rfl
  ·rfl
  ·rw[hmem,←hWf];rfl
  ·rw[←DQ];rfl
  ·rfl
  ·rfl
  ·simp only[go_sem]
   exact⟨_,rfl,rfl⟩
 rintro n f g' ob ⟨k,m,hn,hrun,hg9,hmm,hst,hrd,hW,q3,q14,q13,q8,g8,Z,o8,hZ⟩
 simp only at hW q3 q14 q13 q8 g8 o8
 obtain⟨hg13,cs,mi,xc,cnt,ho,hr,hmi,hmo,hco,hcn,rfl,hxo⟩:=id hW
 have hws:=ai (k:=k) a6
 by_cases hgo:k<fuel∧m.fin=0
 ·obtain⟨hlt,hf⟩:=hgo
  have hlti:(k:Int)<(fuel:Int):=a6
  have hfi:(m.fin:Int)=0:=a6
  simp only[go_sem,q3,q14,q13,hlti,hg13,ho,hr.c21,hfi]
  refine bH rfl (by simp only[go_sem,q13];exact KD hW hcw hg9 a6 hl a6 a6 hf) ?_
  rintro r g2 ob2 ⟨f1,f2⟩
  obtain⟨n1,n2,n3⟩:=Bn (okI:=okI) (code:=code) (inp:=inp) m
  simp only[go_sem,q14,hws]
  refine bW (n-1) a6 ⟨k+1,jQ okI code inp m,a6,?_,ub hg9 hcw,a6,a6,a6,f2,?_⟩
  ·rw[hrun,show n=(n-1)+1 by omega,pw hf];rfl
  simp only[go_sem,q3,q13,q8]
  have h8:=f1 8 a8 a8 a8 a8 a8 a8
  exact⟨h8.1.trans g8,Z,h8.2.trans o8,hZ⟩
 ·have hend:runM okI code inp fuel (Mach.start d)=m:=by
   rw[hrun]
   by_cases hf:m.fin=0
   ·rw[show n=0 by omega];rfl
   ·exact DZ hf n
  rw[hend]
  have hfin:(¬(k:Int)<(fuel:Int))∨((k:Int)<(fuel:Int)∧¬(m.fin:Int)=0):=a6
  have hu:u8s (List.take m.out.length (kZ m.out))=some (m.out.map fun b=>((b.toNat:Nat):Int)):=by rw[l6 (by simp[kZ])];exact pk _
  have hcl:=hr.len
  have hbl:(kZ m.out).length=m.out.length:=by simp[kZ]
  have hb:(List.map (fun n:Int=>UInt8.ofNat n.toNat) (List.map (fun b:UInt8=>((b.toNat:Nat):Int)) m.out))=m.out:=by
   rw[Q7]
   conv=>rhs;rw[←List.map_id m.out]
   exact List.map_congr_left fun b _=>by simp
  have hL:=hr.state (cs':=cs.set 19 (C.d (D.str m.out))) (o:=m.out) (by rw[C4];exact hcl) (fun i hi h19=>aq a6) (iJ a6)
  have hc27:(cs.set 19 (C.d (D.str m.out)))[27]? = some (.osl 47 (g' 47) 1 0 code.length):=(aq a6).trans hr.c27
  have hSL:=zO (m:={ m with out:=m.out }) hr.rl (.osl mi (g' mi) 1 0 m.mem.length)
  have hT:(stC { m with out:=m.out } (.osl mi (g' mi) 1 0 m.mem.length)).take 22=stC { m with out:=m.out } (.osl mi (g' mi) 1 0 m.mem.length):=l6 a6
  rcases hfin with hlti|⟨hlti,hfi⟩
  case' inl=>simp only[go_sem,q3,q14,q13,hlti,hg13,ho,hr.c22,hxo,J1,B6,hu,hb]
  case' inr=>simp only[go_sem,q3,q14,q13,hlti,hg13,ho,hr.c21,hfi,hr.c22,hxo,J1,B6,hu,hb]
  all_goals
   refine⟨a6,a6,?_⟩
   refine eX ac mixed [8] [([13],[],[],false),([66],[],[],false),([13],[0],[],false),([68],[0],[],false),([8,67],[],[0],false),([69],[],[],true)] 1 c9 rfl a8 ?_
   simp only[go_sem]
   (apply aG;· (intro fa ga oa K' hK;simp only[go_sem,q13,hg13] at hK ⊢;exact hK))
   (apply aG;· (intro fa ga oa K' hK;simp only[go_sem,hg13,B6,hL] at hK ⊢;exact⟨by rw[C4];omega,hK⟩))
   (apply aG;· (intro fa ga oa K' hK;simp only[go_sem,q13,hg13] at hK ⊢;exact hK))
   (apply aG;· (intro fa ga oa K' hK;simp only[go_sem,hg13,hc27] at hK ⊢;exact hK))
   (apply ij;(focus simp);(focus (intro fa ga oa K' hK;simp only[go_sem,q8,g8,o8,hSL] at hK ⊢;exact⟨a6,hK⟩)))
   apply cj
   intro K' hK'
   simp only[go_sem]
   refine hK' _ ?_
   clear hK' K'
   rw[mN (by rw[hSL];exact hZ)]
   simp only[go_sem,q8,g8,hT,hSL]
   refine⟨_,⟨_,⟨_,_,rfl,mL (m:=m) ?_ rfl,_,_,rfl,vg ?_,rfl⟩,rfl⟩,cnt,rfl⟩
   ·refine rI rfl ?_ rfl
    rcases hmi with rfl|rfl <;> (simp only[upd];(repeat rw[if_neg (by decide)]);exact hmo)
   ·refine qB (cells:=kB cnt) (off:=0) rfl ?_ cnt (fun n=>.int .i64 n) (fun _=>rfl) hcn (fun j a h=>by rw[C2];unfold kB;rw[x7,h];rfl) (by unfold kB;rw[j5];omega)
    simp only[upd];(repeat rw[if_neg (by decide)]);exact hco
theorem OM (code:List Nat) (d:Nat) (inp:Str) (fuel:Nat) (hl:code.length≤1000000) (hcw:∀x∈code,x<4294967296) (hd:d≤32768) (hfu:fuel≤500000000000) :
  aR Tryz.prog 24 [eU (code,d),sv inp,stV (Mach.start d),iv .i64 fuel] (· = stV (runM okI code inp fuel (Mach.start d))):=by
 refine bM ac mixed Tryz.func24 rfl b9 [.cell 8 78] rfl c8 (by simp[Tryz.ntmps24]) fun g=>?_
 have h2:=KE code d inp fuel hl hcw hd hfu
 have hgood:=sh (okI:=okI) (inp:=inp) hcw (n:=fuel) (nB d)
 generalize runM okI code inp fuel (Mach.start d)=M at h2 hgood ⊢
 unfold eU at h2 ⊢
 have hSl:stV (Mach.start d)=.agg ((stD (Mach.start d)).map .d):=rfl
 have hT22:List.take 22 (List.map C.d (stD (Mach.start d)))=List.map C.d (stD (Mach.start d)):=l6 (by simp[stD,Mach.start])
 rw[hSl] at h2 ⊢
 have hl22:((stD M).map C.d).length=22:=by simp[stD,hgood.len]
 have hT:((stD M).map C.d).take 22=(stD M).map C.d:=l6 a6
 simp only[go_sem,hT22]
 refine⟨by simp[stD,Mach.start],?_⟩
 refine aA rfl (by simp only[go_sem,hT22];exact h2) (by simp only[go_sem,hT22];rfl) ?_
 rintro _ ⟨cnt,rfl⟩
 unfold stV
 simp only[go_sem,hl22]
 rw[mN (by rw[hl22];rfl)]
 refine⟨a6,?_⟩
 simp only[go_sem,hT,hl22]
 rw[mN (by rw[hl22];rfl)]
 refine⟨a6,?_⟩
 rw[hT]
 exact⟨_,mL (m:=M) (mc:=.d (jD M.mem)) (.d _) (by unfold stD;rw[A3];rfl),rfl⟩
theorem qN (code:List Nat) (d:Nat) (inp:Str) (fuel:Nat) (hl:code.length≤1000000) (hcw:∀x∈code,x<4294967296) (hd:d≤32768) (hfu:fuel≤500000000000) :
  aR Tryz.prog 8 [eU (code,d),sv inp,iv .i64 fuel] (· = ve (wR okI code d inp fuel)):=by
 refine bM ac mixed Tryz.func8 rfl b9 [.cell 6 37] rfl c8 (by simp[Tryz.ntmps8]) fun g=>?_
 have h1:=DV code d hd
 have h2:=OM code d inp fuel hl hcw hd hfu
 have hgood:=sh (okI:=okI) (inp:=inp) hcw (n:=fuel) (nB d)
 unfold wR
 generalize runM okI code inp fuel (Mach.start d)=M at h2 hgood ⊢
 unfold eU at h1 h2 ⊢
 have hl22:((stD M).map C.d).length=22:=by simp[stD,hgood.len]
 have hg:∀k,k<5→((stD M).map C.d)[17+k]? = ([.d (jD M.mem),.d (.int .i64 (M.rd:Nat)),.d (.str M.out),.d (.int .i64 (M.steps:Nat)),.d (.int .i64 (M.fin:Nat))]:List C)[k]?:=fun k hk=>by
  have hA:(stD M).map C.d=((.int .i64 (M.pc:Nat)::M.reg.map fun x=>D.int .u32 (x:Nat)):List D).map C.d++[.d (jD M.mem),.d (.int .i64 (M.rd:Nat)),.d (.str M.out),.d (.int .i64 (M.steps:Nat)),.d (.int .i64 (M.fin:Nat))]:=by
   unfold stD
   rw[A3]
   rfl
  rw[hA,B8 (by simp[hgood.len])]
  simp only[j5,j6,hgood.len]
  rw[show 17+k-(16+1)=k by omega]
 have g19:((stD M).map C.d)[19]? = some (.d (.str M.out)):=hg 2 a8
 have g20:((stD M).map C.d)[20]? = some (.d (.int .i64 (M.steps:Nat))):=hg 3 a8
 have g21:((stD M).map C.d)[21]? = some (.d (.int .i64 (M.fin:Nat))):=hg 4 a8
 clear hg
 unfold stV at h2
 generalize (stD M).map C.d=L at h2 hl22 g19 g20 g21
 have hT:L.take 22=L:=l6 a6
 have hSt:stV (Mach.start d)=.agg ((stD (Mach.start d)).map .d):=rfl
 rw[hSt] at h1
 simp only[go_sem]
 refine eX ac mixed [7] [([3],[0],[],false),([1],[0],[],false),([3],[0],[],false),([10],[0],[],false),([2],[0],[],false),([8,9,11,12],[0],[],false),([],[],[0],false),([7,13],[],[],true)] 1 c9 rfl a8 ?_
 simp only[go_sem]
 iterate 3 (apply aG;· (intro fa ga oa K' hK;simp only[go_sem] at hK ⊢;exact hK))
 refine aG (v:=.agg ((stD (Mach.start d)).map .d)) (fun fa ga oa K' hK=>?_) ?_
 ·simp only[go_sem] at hK ⊢
  refine aA (k:=bx K') rfl (by simp only[go_sem];exact h1) (by simp only[go_sem];rfl) ?_
  rintro _ rfl
  simp only[go_sem]
  exact hK
 (apply aG;· (intro fa ga oa K' hK;simp only[go_sem] at hK ⊢;exact hK))
 refine aG (v:=.agg L) (fun fa ga oa K' hK=>?_) ?_
 ·simp only[go_sem] at hK ⊢
  refine aA (k:=bx K') rfl (by simp only[go_sem];exact h2) (by simp only[go_sem];rfl) ?_
  rintro _ rfl
  simp only[go_sem]
  exact hK
 (apply ce;· (intro fa ga oa K' hK;simp only[go_sem] at hK ⊢;exact hK))
 apply cj
 intro K' hK'
 simp only[go_sem,hl22]
 refine hK' _ ?_
 clear hK' K'
 rw[mN (by rw[hl22];rfl)]
 have hl22':=hl22
 by_cases h0:M.fin=0
 ·have h0i:(M.fin:Int)=0:=a6
  rw[if_pos h0]
  have s21:(L.set 21 (C.d (D.int .i64 5)))[21]? = some (C.d (D.int .i64 5)):=iJ a6
  have s20:(L.set 21 (C.d (D.int .i64 5)))[20]? = some (.d (.int .i64 (M.steps:Nat))):=by rw[aq a8];exact g20
  have s19:(L.set 21 (C.d (D.int .i64 5)))[19]? = some (.d (.str M.out)):=by rw[aq a8];exact g19
  simp only[go_sem,g21,h0i,s21,s20,s19]
  exact⟨a6,_,DK,rfl⟩
 ·have h0i:¬(M.fin:Int)=0:=a6
  rw[if_neg h0]
  simp only[go_sem,g19,g20,g21,h0i]
  exact⟨_,DK,rfl⟩
end
end Go.Proofs.YtbojbioflppbdaaGreatDoor
namespace Go.Mach
section
open Go.Asm (Str)
section
def bY:List Nat:=[32505857,386924544,286261249,269484033,286261248,269484032,286261249,17826048,286261250,269484033,270532610,235995138,286261249,269484033,319815704,269484032,286261249,269484033,403701760,386924544,286261249,269484033,286261248,301989893,436207616]
variable {inp:Str}{m:M}{out:Str}{n r1 r2 c a b k st:Nat}
theorem rv {okI:Nat→Nat→Nat→Nat→Bool}{code:List Nat} (h:m.fin≠0):∀n,runM okI code inp n m=m
 |0=>rfl
 |n+1=>by unfold runM;rw[if_neg h]
def vN (r1 r2 c a b k:Nat) (out:Str) (st:Nat):M:=⟨5,[0,r1,r2,0,0,0,0,0,0,0,0,0,0,0,0,1],[c,a,b],k,out,st,0⟩
variable {okI:Nat→Nat→Nat→Nat→Bool} (hok:(bY.all fun w=>okI (w/16777216) (w/1048576%16) (w/65536%16) (w%65536))=true)
include hok
theorem bp{n w:Nat} (hf:m.fin=0) (hw:bY[m.pc]? = some w):runM okI bY inp (n+1) m=runM okI bY inp n (doM bY inp { m with steps:=m.steps+1 } (w/16777216) (w/1048576%16) (w/65536%16) (w%65536)):=by
 rw[pw hf]
 congr 1
 unfold jQ
 rw[hw]
 simp only
 rw[if_pos (r0.1 hok w (l4 hw))]
def je (inp:Str) (k:Nat):Nat:=match inp[k]? with|some x=>x.toNat|none=>256
def rdN (inp:Str) (k:Nat):Nat:=match inp[k]? with|some _=>k+1|none=>k
theorem vO{n w:Nat} (hf:m.fin=0) (hw:bY[m.pc]? = some w) (h:w/16777216=23):runM okI bY inp (n+1) m=runM okI bY inp n { m with reg:=m.reg.set (w/1048576%16) (je inp m.rd),pc:=m.pc+1,rd:=rdN inp m.rd,steps:=m.steps+1 }:=by
 rw[bp hok hf hw,h]
 congr 1
 unfold je rdN
 show (match inp[m.rd]? with|some x=>{ ({ m with steps:=m.steps+1 }:M).set (w/1048576%16) x.toNat with rd:=m.rd+1 }|none=>({ m with steps:=m.steps+1 }:M).set (w/1048576%16) 256)=_
 cases inp[m.rd]? <;> rfl
theorem Ay{n:Nat}:runM okI bY inp (n+5) (start 3)=runM okI bY inp n (vN (je inp 0) 0 (je inp 0) (je inp 0) 0 (rdN inp 0) [] 5):=
 (bp hok rfl rfl).trans<|(vO hok rfl rfl rfl).trans<|(bp hok rfl rfl).trans<|(bp hok rfl rfl).trans<|(bp hok rfl rfl).trans rfl
theorem vP:runM okI bY inp (n+10) (vN r1 r2 c a b k out st)=runM okI bY inp n ⟨if (if c<256 then 1 else 0)=0 then 24 else 15,[0,(if c<256 then 1 else 0),256,0,0,0,0,0,0,0,0,0,0,0,0,1],[c,(if c<256 then 1 else 0),256],k,out,st+10,0⟩:=
 (bp hok (w:=269484032) rfl rfl:_=runM okI bY inp (n+9) ⟨6,[0,c,r2,0,0,0,0,0,0,0,0,0,0,0,0,1],[c,a,b],k,out,(st+1),0⟩).trans <|
 (bp hok (w:=286261249) rfl rfl:_=runM okI bY inp (n+8) ⟨7,[0,c,r2,0,0,0,0,0,0,0,0,0,0,0,0,1],[c,c,b],k,out,(st+2),0⟩).trans <|
 (bp hok (w:=17826048) rfl rfl:_=runM okI bY inp (n+7) ⟨8,[0,256,r2,0,0,0,0,0,0,0,0,0,0,0,0,1],[c,c,b],k,out,(st+3),0⟩).trans <|
 (bp hok (w:=286261250) rfl rfl:_=runM okI bY inp (n+6) ⟨9,[0,256,r2,0,0,0,0,0,0,0,0,0,0,0,0,1],[c,c,256],k,out,(st+4),0⟩).trans <|
 (bp hok (w:=269484033) rfl rfl:_=runM okI bY inp (n+5) ⟨10,[0,c,r2,0,0,0,0,0,0,0,0,0,0,0,0,1],[c,c,256],k,out,(st+5),0⟩).trans <|
 (bp hok (w:=270532610) rfl rfl:_=runM okI bY inp (n+4) ⟨11,[0,c,256,0,0,0,0,0,0,0,0,0,0,0,0,1],[c,c,256],k,out,(st+6),0⟩).trans <|
 (bp hok (w:=235995138) rfl rfl:_=runM okI bY inp (n+3) ⟨12,[0,(if c<256 then 1 else 0),256,0,0,0,0,0,0,0,0,0,0,0,0,1],[c,c,256],k,out,(st+7),0⟩).trans <|
 (bp hok (w:=286261249) rfl rfl:_=runM okI bY inp (n+2) ⟨13,[0,(if c<256 then 1 else 0),256,0,0,0,0,0,0,0,0,0,0,0,0,1],[c,(if c<256 then 1 else 0),256],k,out,(st+8),0⟩).trans <|
 (bp hok (w:=269484033) rfl rfl:_=runM okI bY inp (n+1) ⟨14,[0,(if c<256 then 1 else 0),256,0,0,0,0,0,0,0,0,0,0,0,0,1],[c,(if c<256 then 1 else 0),256],k,out,(st+9),0⟩).trans <| (bp hok (w:=319815704) rfl rfl).trans rfl
theorem Cs{n r2 c b k st:Nat} (hl:¬65536≤out.length):runM okI bY inp (n+1) ⟨18,[0,c,r2,0,0,0,0,0,0,0,0,0,0,0,0,1],[c,c,b],k,out,(st+3),0⟩=runM okI bY inp n ⟨19,[0,c,r2,0,0,0,0,0,0,0,0,0,0,0,0,1],[c,c,b],k,(out++[UInt8.ofNat c]),(st+4),0⟩:=by
 refine(bp hok (w:=403701760) rfl rfl).trans ?_
 congr 1
 exact if_neg hl
theorem xQ (hl:¬65536≤out.length):runM okI bY inp (n+9) ⟨15,[0,r1,r2,0,0,0,0,0,0,0,0,0,0,0,0,1],[c,a,b],k,out,st,0⟩=runM okI bY inp n (vN (je inp k) r2 (je inp k) (je inp k) b (rdN inp k) (out++[UInt8.ofNat c]) (st+9)):=
 (bp hok (w:=269484032) rfl rfl:_=runM okI bY inp (n+8) ⟨16,[0,c,r2,0,0,0,0,0,0,0,0,0,0,0,0,1],[c,a,b],k,out,(st+1),0⟩).trans <|
 (bp hok (w:=286261249) rfl rfl:_=runM okI bY inp (n+7) ⟨17,[0,c,r2,0,0,0,0,0,0,0,0,0,0,0,0,1],[c,c,b],k,out,(st+2),0⟩).trans <|
 (bp hok (w:=269484033) rfl rfl:_=runM okI bY inp (n+6) ⟨18,[0,c,r2,0,0,0,0,0,0,0,0,0,0,0,0,1],[c,c,b],k,out,(st+3),0⟩).trans<|(Cs hok hl).trans <|
 (vO hok (w:=386924544) rfl rfl rfl:_=runM okI bY inp (n+4) ⟨20,[0,(je inp k),r2,0,0,0,0,0,0,0,0,0,0,0,0,1],[c,c,b],(rdN inp k),(out++[UInt8.ofNat c]),(st+5),0⟩).trans <|
 (bp hok (w:=286261249) rfl rfl:_=runM okI bY inp (n+3) ⟨21,[0,(je inp k),r2,0,0,0,0,0,0,0,0,0,0,0,0,1],[c,(je inp k),b],(rdN inp k),(out++[UInt8.ofNat c]),(st+6),0⟩).trans <|
 (bp hok (w:=269484033) rfl rfl:_=runM okI bY inp (n+2) ⟨22,[0,(je inp k),r2,0,0,0,0,0,0,0,0,0,0,0,0,1],[c,(je inp k),b],(rdN inp k),(out++[UInt8.ofNat c]),(st+7),0⟩).trans <|
 (bp hok (w:=286261248) rfl rfl:_=runM okI bY inp (n+1) ⟨23,[0,(je inp k),r2,0,0,0,0,0,0,0,0,0,0,0,0,1],[(je inp k),(je inp k),b],(rdN inp k),(out++[UInt8.ofNat c]),(st+8),0⟩).trans<|(bp hok (w:=301989893) rfl rfl).trans rfl
theorem vQ {inp:Str} (hl:inp.length≤60000):∀(d k r1 r2 a b st n:Nat),k+d=inp.length→19*d+11≤n→
  (runM okI bY inp n (vN r1 r2 (je inp k) a b (rdN inp k) (inp.take k) st)).fin=1∧(runM okI bY inp n (vN r1 r2 (je inp k) a b (rdN inp k) (inp.take k) st)).out=inp
 |0,k,r1,r2,a,b,st,n,hk,hn=>by
   obtain⟨n,rfl⟩:∃j,n=j+1+10:=⟨n-11,a6⟩
   have hx:inp[k]? = none:=C7 a6
   have hg:je inp k=256:=by unfold je;rw[hx]
   rw[vP hok,hg,show (if (256:Nat)<256 then 1 else 0)=0 from rfl,if_pos rfl,bp hok rfl rfl,rv (fun h=>by cases h)]
   exact⟨rfl,l6 a6⟩
 |d+1,k,r1,r2,a,b,st,n,hk,hn=>by
   obtain⟨n,rfl⟩:∃j,n=j+9+10:=⟨n-19,a6⟩
   obtain⟨x,hx⟩:∃x,inp[k]? = some x:=⟨_,s7 a6⟩
   have hg:je inp k=x.toNat:=by unfold je;rw[hx]
   have hr:rdN inp k=k+1:=by unfold rdN;rw[hx]
   have hxl:x.toNat<256:=x.toNat_lt
   rw[vP hok,hg,if_pos hxl,if_neg (by decide:¬1=0),xQ hok (by rw[B7];omega),hr,show UInt8.ofNat x.toNat=x from a7,show inp.take k++[x]=inp.take (k+1) from by rw[A4,hx];rfl]
   exact vQ hl d (k+1) _ _ _ _ _ n a6 a6
theorem Az (hl:inp.length≤60000) {n:Nat} (hn:19*inp.length+16≤n):∃st,wR okI bY 3 inp n=(1,inp,st):=by
 obtain⟨n,rfl⟩:∃j,n=j+5:=⟨n-5,a6⟩
 have h:=vQ hok hl inp.length 0 (je inp 0) 0 (je inp 0) 0 5 n a6 a6
 unfold wR
 simp only
 rw[Ay hok]
 rw[I4] at h
 rw[h.1,h.2]
 exact⟨_,rfl⟩
end
end
end Go.Mach
namespace Go.Proofs.YtbojbioflppbdaaGreatDoor.Low
section
attribute [local congr] Go.Am.ite_cc
open Go Go.Am Go.Asm Go.Mach
def fp (t:Nat) (code:List Nat) (d:Nat):Nat:=8*(t+1)*(code.length+d+1)
theorem F_A (t:Nat) (code:List Nat) (d:Nat) (ht:t≤1000) (hl:code.length≤1000000) (hd:d≤32768):aR Tryz.prog 9 [iv .i64 t,eU (code,d)] (· = iv .i64 (fp t code d:Nat)):=by
 refine az ac mixed Tryz.func9 rfl b9 [4] rfl c8 (by simp[Tryz.ntmps9]) fun g=>?_
 have h1:IntKind.i64.wrap ((t:Int)+1)=((t+1:Nat):Int):=by rw[wrap_i64] <;> omega
 have h2:IntKind.i64.wrap (8*((t+1:Nat):Int))=((8*(t+1):Nat):Int):=by rw[wrap_i64] <;> omega
 have h3:IntKind.i64.wrap ((code.length:Int)+(d:Int))=((code.length+d:Nat):Int):=by rw[wrap_i64] <;> omega
 have h4:IntKind.i64.wrap (((code.length+d:Nat):Int)+1)=((code.length+d+1:Nat):Int):=by rw[wrap_i64] <;> omega
 have h5:IntKind.i64.wrap (((8*(t+1):Nat):Int)*((code.length+d+1:Nat):Int))=(fp t code d:Nat):=by
  have hb:8*(t+1)*(code.length+d+1)≤8008*1032769:=Nat.mul_le_mul a6 a6
  unfold fp
  rw[←L2,wrap_i64] <;> omega
 unfold eU eL
 simp only[go_sem,j5,h1,h2,h3,h4,h5]
def aT:Str:=[102,117,110,99,32,109,97,105,110,40,41,32,123,32,112,117,116,40,54,53,41,59,32,125]
def pe:Str:=[102,117,110,99,32,109,97,105,110,40,41,32,123,32,112,117,116,40,54,53,41,32,125]
theorem FK:mr pe=([],22,3):=by
 have h:(fq pe).2=(22,3):=c9
 unfold mr
 simp only
 rw[show (fq pe).2.2=3 by rw[h],show (fq pe).2.1=22 by rw[h],if_pos a8]
def aB:Str:=[83,69,69,68,6,0,0,0,1,0,0,0,1,0,240,1,65,0,16,1,0,0,16,17,0,0,16,16,0,0,16,24,0,0,0,26]
def aC:List Nat:=[32505857,17825857,286261248,269484032,403701760,436207616]
theorem a_c:mr aT=(aB,0,0):=c9
theorem a_r:ji aB=some (aC,1):=c9
theorem a_z:szP (fq aT).1≤2000:=c9
theorem a_x:wR okI aC 1 [] (fp 0 aC 1)=(1,[65],6):=c9
theorem e_c:dH ⟨[],[],[]⟩=(([],0),7):=c9
theorem w_z:szP (fq pe).1≤2000:=c9
theorem Ns {P:Program}{gb:Nat}{o:cN}{f:FuncId}{R:AV→Prop} (h:bR P gb o f [.agg [.d (.sl []),.d (.sl []),.d (.sl [])]] R):bR P gb o f [.agg [.d .nsl,.d .nsl,.d .nsl]] R:=
 ⟨h.1,fun J w vs h0 h1 h2=>h.2 J w vs h0 h1 (by
  simp only[RVs,RV] at h2 ⊢
  obtain⟨u,us,rfl,⟨ws,rfl,hl,hc⟩,hus⟩:=h2
  refine⟨_,us,rfl,⟨ws,rfl,hl,fun i c hi=>?_⟩,hus⟩
  have hn:([.d .nsl,.d .nsl,.d .nsl]:List C)[i]? = some (.d .nsl):=by
   match i,hi with
   |0,_=>rfl
   |1,_=>rfl
   |2,_=>rfl
  have hs:c=.d (.sl []):=by
   match i,hi with
   |0,hi=>cases hi;rfl
   |1,hi=>cases hi;rfl
   |2,hi=>cases hi;rfl
  obtain⟨v,hv,x,hx,hr⟩:=hc i _ hn
  cases hx
  cases hr
  exact⟨_,hv,_,hs,.sl0⟩)⟩
theorem zb {o:cN} (ht:iK o):bR Tryz.prog 1 o 5 [] (· = bv true):=by
 refine ax 0 1 o ac mixed Tryz.func5 rfl b9 [.tmp 0] rfl c8 c8 (by simp[Tryz.ntmps5]) fun b₀ β0 s0 w0 g=>?_
 simp only[go_sem]
 refine am ab (fun s β ds w h=>h.1.2) rfl (by simp only[go_sem];exact tT ht (src:=aT) a_z) (by simp only[go_sem];rfl) ?_
 rintro _ rfl
 rw[a_c]
 unfold zL
 simp only[go_sem]
 refine aF ab rfl (by simp only[go_sem];exact yE aB a8) (by simp only[go_sem];rfl) ?_
 rintro _ rfl
 rw[a_r]
 unfold yu eU
 simp only[go_sem]
 refine cT ac mixed ab [6] [([4],[0],[],false),([4],[0],[],false),([23],[0],[],false),([22,24],[0],[],false),([],[],[0],false),([6,25],[],[],true)] 1 rfl c9 rfl a8 ?_
 simp only[go_sem]
 iterate 2 (apply au;(case hg=>first|exact s9|exact⟨_,rfl,by decide,rfl⟩);(case h1=>intro fa ga oa K' hK;simp only[go_sem] at hK ⊢;exact hK))
 refine au (v:=iv .i64 (fp 0 aC 1:Nat)) s9 (fun fa ga oa K' hK=>?_) ?_
 ·simp only[go_sem] at hK ⊢
  refine aF ab rfl (by simp only[go_sem];exact F_A 0 aC 1 a8 a8 a8) (by simp only[go_sem];rfl) ?_
  rintro _ rfl
  simp only[go_sem]
  exact hK
 refine au (v:=ve (1,[65],6)) s9 (fun fa ga oa K' hK=>?_) ?_
 ·simp only[go_sem] at hK ⊢
  refine aF ab rfl (by simp only[go_sem];exact qN aC 1 [] (fp 0 aC 1) a8 a8 a8 a8) (by simp only[go_sem];rfl) ?_
  rintro _ rfl
  rw[a_x]
  simp only[go_sem]
  exact hK
 unfold ve
 (apply bI;(case hg=>first|exact s9|exact⟨_,rfl,by decide,rfl⟩);(case h1=>intro fa ga oa K' hK;simp only[go_sem] at hK ⊢;exact hK))
 refine cU s9 ?_
 intro K' hK'
 simp only[go_sem]
 refine hK' _ ?_
 clear hK' K'
 simp only[go_sem]
 refine am ab (fun s β ds w h=>h.1.2) rfl (by simp only[go_sem];exact tT ht (src:=pe) w_z) (by simp only[go_sem];rfl) ?_
 rintro _ rfl
 rw[FK]
 unfold zL
 simp only[go_sem]
 refine am ab (fun s β ds w h=>h.1.2) rfl (by simp only[go_sem];exact Ns (qL ht (p:=⟨[],[],[]⟩) c9)) (by simp only[go_sem];rfl) ?_
 rintro _ rfl
 rw[e_c]
 unfold nz eU
 simp only[go_sem]
def rx:Str:=[118,97,114,32,99,59,32,102,117,110,99,32,109,97,105,110,40,41,32,123,32,99,32,61,32,103,101,116,40,41,59,32,119,104,105,108,101,32,40,99,32,60,32,50,53,54,41,32,123,32,112,117,116,40,99,41,59,32,99,32,61,32,103,101,116,40,41,59,32,125,32,125]
theorem Jz:(fq rx).2=(0,0):=c9
theorem JA:dH (fq rx).1=((bY,3),0):=c9
theorem JB:szP (fq rx).1≤2000:=c9
theorem FL:(bY.all fun w=>okI (w/16777216) (w/1048576%16) (w/65536%16) (w%65536))=true:=c9
theorem FM {o:cN} (ht:iK o) (inp:Str):bR Tryz.prog 1 o 3 [sv inp] (· = bv true):=by
 refine ax 0 1 o ac mixed Tryz.func3 rfl b9 [.tmp 2] rfl c8 c8 (by simp[Tryz.ntmps3]) fun b₀ β0 s0 w0 g=>?_
 simp only[go_sem]
 refine am ab (fun s β ds w h=>h.1.2) rfl (by simp only[go_sem];exact zb ht) (by simp only[go_sem];rfl) ?_
 rintro _ rfl
 by_cases hl:200<inp.length
 ·have hli:(200:Int)<(inp.length:Int):=a6
  simp only[go_sem,hli]
 have hli:¬(200:Int)<(inp.length:Int):=a6
 simp only[go_sem,hli]
 have hP:=Dh ht rx
 have hI:=qL ht (p:=(fq rx).1) JB
 rw[JA] at hI
 obtain⟨P,hPe⟩:∃P,fq rx=(P,0,0):=⟨(fq rx).1,by rw[←Jz]⟩
 rw[hPe] at hP hI
 unfold yb at hP
 obtain⟨vs,ars,fs⟩:=P
 unfold eg gU at hP hI
 unfold nz eU at hI
 refine am ab (fun s β ds w h=>h.1.2) rfl (by simp only[go_sem];exact hP) (by simp only[go_sem];rfl) ?_
 rintro _ rfl
 simp only[go_sem]
 refine am ab (fun s β ds w h=>h.1.2) rfl (by simp only[go_sem];exact hI) (by simp only[go_sem];rfl) ?_
 rintro _ rfl
 have hw:IntKind.i64.wrap ((inp.length:Int)+1)=((inp.length+1:Nat):Int):=by rw[wrap_i64] <;> omega
 simp only[go_sem]
 have hb:19*inp.length+16≤fp (inp.length+1) bY 3:=by
  show _≤8*(inp.length+1+1)*29
  omega
 have hb2:fp (inp.length+1) bY 3≤500000000000:=by
  show 8*(inp.length+1+1)*29≤_
  omega
 obtain⟨st,hx⟩:=Az FL (inp:=inp) a6 hb
 refine cT ac mixed ab [8] [([6],[0],[],false),([0],[0],[],false),([0],[0],[],false),([32],[0],[],false),([33],[0],[],false),([6],[0],[],false),([34,35],[0],[],false),([30,31,36],[0],[],false),([],[],[0],false),([8,37],[],[],true)] 1 rfl c9 rfl a8 ?_
 simp only[go_sem]
 iterate 6 (apply au;(case hg=>first|exact s9|exact⟨_,rfl,by decide,rfl⟩);(case h1=>intro fa ga oa K' hK;simp only[go_sem,hw] at hK ⊢;exact hK))
 refine au (v:=iv .i64 (fp (inp.length+1) bY 3:Nat)) s9 (fun fa ga oa K' hK=>?_) ?_
 ·simp only[go_sem] at hK ⊢
  refine aF ab rfl (by simp only[go_sem];exact F_A (inp.length+1) bY 3 a6 a8 a8) (by simp only[go_sem];rfl) ?_
  rintro _ rfl
  simp only[go_sem]
  exact hK
 refine au (v:=ve (1,inp,st)) s9 (fun fa ga oa K' hK=>?_) ?_
 ·simp only[go_sem] at hK ⊢
  refine aF ab rfl (by simp only[go_sem];exact qN bY 3 inp (fp (inp.length+1) bY 3) a8 a8 a8 hb2) (by simp only[go_sem];rfl) ?_
  rintro _ rfl
  rw[hx]
  simp only[go_sem]
  exact hK
 unfold ve
 (apply bI;(case hg=>first|exact s9|exact⟨_,rfl,by decide,rfl⟩);(case h1=>intro fa ga oa K' hK;simp only[go_sem] at hK ⊢;exact hK))
 refine cU s9 ?_
 intro K' hK'
 simp only[go_sem]
 refine hK' _ ?_
 clear hK' K'
 simp only[go_sem]
end
end Go.Proofs.YtbojbioflppbdaaGreatDoor.Low
namespace Go.Mach
section
open Go.Asm (Str)
section
def kC (k:Nat):List Nat:=[269484033,270532610,k*16777216+1114114,286261249,269484033,286261248,269484032,286261249,17825792,286261250,269484033,270532610,219217922,286261249,269484033,403701760,269484032,286261249,17825800,286261250,269484033,270532610,219217922,286261249,269484033,403701760,269484032,286261249,17825808,286261250,269484033,270532610,219217922,286261249,269484033,403701760,269484032,286261249,17825816,286261250,269484033,270532610,219217922,286261249,269484033,403701760,436207616]
def cB (n:Nat):List Nat:=if 65535<n then [17825792+n%65536,34603008+n/65536] else [17825792+n]
def jj (k a b:Nat):List Nat:=32505857::(cB a++(286261249::(cB b++(286261250::kC k))))
variable {inp:Str}{out:Str}{n r1 r2 v m1 m2 s:Nat}
section
variable {okI:Nat→Nat→Nat→Nat→Bool}
def okW (okI:Nat→Nat→Nat→Nat→Bool) (w:Nat):Bool:=okI (w/16777216) (w/1048576%16) (w/65536%16) (w%65536)
theorem ll {C:List Nat}{m:M}{n w:Nat} (hk:okW okI w=true) (hf:m.fin=0) (hw:C[m.pc]? = some w):runM okI C inp (n+1) m=runM okI C inp n (doM C inp { m with steps:=m.steps+1 } (w/16777216) (w/1048576%16) (w/65536%16) (w%65536)):=by
 rw[pw hf]
 congr 1
 unfold jQ
 rw[hw]
 simp only
 exact if_pos hk
variable {C:List Nat}{k p:Nat} (hok:(kC k).all (okW okI)=true) (hC:∀j,C[p+j]? = (kC k)[j]?)
include hok hC
theorem aL{m:M}{n w:Nat}{j:Nat} (hf:m.fin=0) (hp:m.pc=p+j) (hw:(kC k)[j]? = some w):runM okI C inp (n+1) m=runM okI C inp n (doM C inp { m with steps:=m.steps+1 } (w/16777216) (w/1048576%16) (w/65536%16) (w%65536)):=
 ll (r0.1 hok w (l4 hw)) hf (by rw[hp,hC,hw])
theorem front{n r1 r2 m0 a b s:Nat}:runM okI C inp (n+2) ⟨p,[0,r1,r2,0,0,0,0,0,0,0,0,0,0,0,0,1],[m0,a,b],0,out,s,0⟩=runM okI C inp n ⟨p+2,[0,a,b,0,0,0,0,0,0,0,0,0,0,0,0,1],[m0,a,b],0,out,(s+2),0⟩:=
 (aL hok hC (j:=0) (w:=269484033) rfl rfl rfl:_=runM okI C inp (n+1) ⟨p+1,[0,a,r2,0,0,0,0,0,0,0,0,0,0,0,0,1],[m0,a,b],0,out,(s+1),0⟩).trans<|(aL hok hC (j:=1) (w:=270532610) rfl rfl rfl).trans rfl
theorem opd{n m0 a b s x:Nat} (h4:4≤k) (h15:k≤13) (hx:applyN k a b=some x):runM okI C inp (n+1) ⟨p+2,[0,a,b,0,0,0,0,0,0,0,0,0,0,0,0,1],[m0,a,b],0,out,s,0⟩=runM okI C inp n ⟨p+3,[0,x,b,0,0,0,0,0,0,0,0,0,0,0,0,1],[m0,a,b],0,out,(s+1),0⟩:=by
 refine(aL hok hC (j:=2) (w:=k*16777216+1114114) rfl rfl rfl).trans ?_
 rw[show (k*16777216+1114114)/16777216=k by omega,show (k*16777216+1114114)/1048576%16=1 by omega,show (k*16777216+1114114)/65536%16=1 by omega,show (k*16777216+1114114)%65536=2 by omega]
 congr 1
 unfold doM
 iterate 15 rw[if_neg (by omega)]
 show (match applyN k a b with|some x=>_|none=>_)=_
 rw[hx]
 rfl
theorem opz{n m0 a b s:Nat} (h4:4≤k) (h15:k≤13) (hx:applyN k a b=none):runM okI C inp (n+1) ⟨p+2,[0,a,b,0,0,0,0,0,0,0,0,0,0,0,0,1],[m0,a,b],0,out,s,0⟩=⟨p+2,[0,a,b,0,0,0,0,0,0,0,0,0,0,0,0,1],[m0,a,b],0,out,(s+1),2⟩:=by
 refine(aL hok hC (j:=2) (w:=k*16777216+1114114) rfl rfl rfl).trans ?_
 rw[show (k*16777216+1114114)/16777216=k by omega,show (k*16777216+1114114)/1048576%16=1 by omega,show (k*16777216+1114114)/65536%16=1 by omega,show (k*16777216+1114114)%65536=2 by omega]
 unfold doM
 iterate 15 rw[if_neg (by omega)]
 show runM okI C inp n (match applyN k a b with|some x=>_|none=>_)=_
 rw[hx]
 exact rv (fun h=>by cases h) n
theorem mid{n r2 m0 m1 m2 s x:Nat}:runM okI C inp (n+3) ⟨p+3,[0,x,r2,0,0,0,0,0,0,0,0,0,0,0,0,1],[m0,m1,m2],0,out,s,0⟩=runM okI C inp n ⟨p+6,[0,x,r2,0,0,0,0,0,0,0,0,0,0,0,0,1],[x,x,m2],0,out,(s+3),0⟩:=
 (aL hok hC (j:=3) (w:=286261249) rfl rfl rfl:_=runM okI C inp (n+2) ⟨p+4,[0,x,r2,0,0,0,0,0,0,0,0,0,0,0,0,1],[m0,x,m2],0,out,(s+1),0⟩).trans <|
 (aL hok hC (j:=4) (w:=269484033) rfl rfl rfl:_=runM okI C inp (n+1) ⟨p+5,[0,x,r2,0,0,0,0,0,0,0,0,0,0,0,0,1],[m0,x,m2],0,out,(s+2),0⟩).trans<|(aL hok hC (j:=5) (w:=286261248) rfl rfl rfl).trans rfl
theorem KM (hl:¬65536≤out.length):runM okI C inp (n+10) ⟨p+6,[0,r1,r2,0,0,0,0,0,0,0,0,0,0,0,0,1],[v,m1,m2],0,out,s,0⟩=runM okI C inp n ⟨p+16,[0,(v/2^0),0,0,0,0,0,0,0,0,0,0,0,0,0,1],[v,(v/2^0),0],0,(out++[UInt8.ofNat (v/2^0)]),(s+10),0⟩:=by
 refine
 (aL hok hC (j:=6) (w:=269484032) rfl rfl rfl:_=runM okI C inp (n+9) ⟨p+7,[0,v,r2,0,0,0,0,0,0,0,0,0,0,0,0,1],[v,m1,m2],0,out,(s+1),0⟩).trans <|
 (aL hok hC (j:=7) (w:=286261249) rfl rfl rfl:_=runM okI C inp (n+8) ⟨p+8,[0,v,r2,0,0,0,0,0,0,0,0,0,0,0,0,1],[v,v,m2],0,out,(s+2),0⟩).trans <|
 (aL hok hC (j:=8) (w:=17825792) rfl rfl rfl:_=runM okI C inp (n+7) ⟨p+9,[0,0,r2,0,0,0,0,0,0,0,0,0,0,0,0,1],[v,v,m2],0,out,(s+3),0⟩).trans <|
 (aL hok hC (j:=9) (w:=286261250) rfl rfl rfl:_=runM okI C inp (n+6) ⟨p+10,[0,0,r2,0,0,0,0,0,0,0,0,0,0,0,0,1],[v,v,0],0,out,(s+4),0⟩).trans <|
 (aL hok hC (j:=10) (w:=269484033) rfl rfl rfl:_=runM okI C inp (n+5) ⟨p+11,[0,v,r2,0,0,0,0,0,0,0,0,0,0,0,0,1],[v,v,0],0,out,(s+5),0⟩).trans <|
 (aL hok hC (j:=11) (w:=270532610) rfl rfl rfl:_=runM okI C inp (n+4) ⟨p+12,[0,v,0,0,0,0,0,0,0,0,0,0,0,0,0,1],[v,v,0],0,out,(s+6),0⟩).trans <|
 (aL hok hC (j:=12) (w:=219217922) rfl rfl rfl:_=runM okI C inp (n+3) ⟨p+13,[0,(v/2^0),0,0,0,0,0,0,0,0,0,0,0,0,0,1],[v,v,0],0,out,(s+7),0⟩).trans <|
 (aL hok hC (j:=13) (w:=286261249) rfl rfl rfl:_=runM okI C inp (n+2) ⟨p+14,[0,(v/2^0),0,0,0,0,0,0,0,0,0,0,0,0,0,1],[v,(v/2^0),0],0,out,(s+8),0⟩).trans <|
 (aL hok hC (j:=14) (w:=269484033) rfl rfl rfl:_=runM okI C inp (n+1) ⟨p+15,[0,(v/2^0),0,0,0,0,0,0,0,0,0,0,0,0,0,1],[v,(v/2^0),0],0,out,(s+9),0⟩).trans<|(aL hok hC (j:=15) (w:=403701760) rfl rfl rfl).trans ?_
 congr 1
 exact if_neg hl
theorem KN (hl:¬65536≤out.length):runM okI C inp (n+10) ⟨p+16,[0,r1,r2,0,0,0,0,0,0,0,0,0,0,0,0,1],[v,m1,m2],0,out,s,0⟩=runM okI C inp n ⟨p+26,[0,(v/2^8),8,0,0,0,0,0,0,0,0,0,0,0,0,1],[v,(v/2^8),8],0,(out++[UInt8.ofNat (v/2^8)]),(s+10),0⟩:=by
 refine
 (aL hok hC (j:=16) (w:=269484032) rfl rfl rfl:_=runM okI C inp (n+9) ⟨p+17,[0,v,r2,0,0,0,0,0,0,0,0,0,0,0,0,1],[v,m1,m2],0,out,(s+1),0⟩).trans <|
 (aL hok hC (j:=17) (w:=286261249) rfl rfl rfl:_=runM okI C inp (n+8) ⟨p+18,[0,v,r2,0,0,0,0,0,0,0,0,0,0,0,0,1],[v,v,m2],0,out,(s+2),0⟩).trans <|
 (aL hok hC (j:=18) (w:=17825800) rfl rfl rfl:_=runM okI C inp (n+7) ⟨p+19,[0,8,r2,0,0,0,0,0,0,0,0,0,0,0,0,1],[v,v,m2],0,out,(s+3),0⟩).trans <|
 (aL hok hC (j:=19) (w:=286261250) rfl rfl rfl:_=runM okI C inp (n+6) ⟨p+20,[0,8,r2,0,0,0,0,0,0,0,0,0,0,0,0,1],[v,v,8],0,out,(s+4),0⟩).trans <|
 (aL hok hC (j:=20) (w:=269484033) rfl rfl rfl:_=runM okI C inp (n+5) ⟨p+21,[0,v,r2,0,0,0,0,0,0,0,0,0,0,0,0,1],[v,v,8],0,out,(s+5),0⟩).trans <|
 (aL hok hC (j:=21) (w:=270532610) rfl rfl rfl:_=runM okI C inp (n+4) ⟨p+22,[0,v,8,0,0,0,0,0,0,0,0,0,0,0,0,1],[v,v,8],0,out,(s+6),0⟩).trans <|
 (aL hok hC (j:=22) (w:=219217922) rfl rfl rfl:_=runM okI C inp (n+3) ⟨p+23,[0,(v/2^8),8,0,0,0,0,0,0,0,0,0,0,0,0,1],[v,v,8],0,out,(s+7),0⟩).trans <|
 (aL hok hC (j:=23) (w:=286261249) rfl rfl rfl:_=runM okI C inp (n+2) ⟨p+24,[0,(v/2^8),8,0,0,0,0,0,0,0,0,0,0,0,0,1],[v,(v/2^8),8],0,out,(s+8),0⟩).trans <|
 (aL hok hC (j:=24) (w:=269484033) rfl rfl rfl:_=runM okI C inp (n+1) ⟨p+25,[0,(v/2^8),8,0,0,0,0,0,0,0,0,0,0,0,0,1],[v,(v/2^8),8],0,out,(s+9),0⟩).trans<|(aL hok hC (j:=25) (w:=403701760) rfl rfl rfl).trans ?_
 congr 1
 exact if_neg hl
theorem KO (hl:¬65536≤out.length):runM okI C inp (n+10) ⟨p+26,[0,r1,r2,0,0,0,0,0,0,0,0,0,0,0,0,1],[v,m1,m2],0,out,s,0⟩=runM okI C inp n ⟨p+36,[0,(v/2^16),16,0,0,0,0,0,0,0,0,0,0,0,0,1],[v,(v/2^16),16],0,(out++[UInt8.ofNat (v/2^16)]),(s+10),0⟩:=by
 refine
 (aL hok hC (j:=26) (w:=269484032) rfl rfl rfl:_=runM okI C inp (n+9) ⟨p+27,[0,v,r2,0,0,0,0,0,0,0,0,0,0,0,0,1],[v,m1,m2],0,out,(s+1),0⟩).trans <|
 (aL hok hC (j:=27) (w:=286261249) rfl rfl rfl:_=runM okI C inp (n+8) ⟨p+28,[0,v,r2,0,0,0,0,0,0,0,0,0,0,0,0,1],[v,v,m2],0,out,(s+2),0⟩).trans <|
 (aL hok hC (j:=28) (w:=17825808) rfl rfl rfl:_=runM okI C inp (n+7) ⟨p+29,[0,16,r2,0,0,0,0,0,0,0,0,0,0,0,0,1],[v,v,m2],0,out,(s+3),0⟩).trans <|
 (aL hok hC (j:=29) (w:=286261250) rfl rfl rfl:_=runM okI C inp (n+6) ⟨p+30,[0,16,r2,0,0,0,0,0,0,0,0,0,0,0,0,1],[v,v,16],0,out,(s+4),0⟩).trans <|
 (aL hok hC (j:=30) (w:=269484033) rfl rfl rfl:_=runM okI C inp (n+5) ⟨p+31,[0,v,r2,0,0,0,0,0,0,0,0,0,0,0,0,1],[v,v,16],0,out,(s+5),0⟩).trans <|
 (aL hok hC (j:=31) (w:=270532610) rfl rfl rfl:_=runM okI C inp (n+4) ⟨p+32,[0,v,16,0,0,0,0,0,0,0,0,0,0,0,0,1],[v,v,16],0,out,(s+6),0⟩).trans <|
 (aL hok hC (j:=32) (w:=219217922) rfl rfl rfl:_=runM okI C inp (n+3) ⟨p+33,[0,(v/2^16),16,0,0,0,0,0,0,0,0,0,0,0,0,1],[v,v,16],0,out,(s+7),0⟩).trans <|
 (aL hok hC (j:=33) (w:=286261249) rfl rfl rfl:_=runM okI C inp (n+2) ⟨p+34,[0,(v/2^16),16,0,0,0,0,0,0,0,0,0,0,0,0,1],[v,(v/2^16),16],0,out,(s+8),0⟩).trans <|
 (aL hok hC (j:=34) (w:=269484033) rfl rfl rfl:_=runM okI C inp (n+1) ⟨p+35,[0,(v/2^16),16,0,0,0,0,0,0,0,0,0,0,0,0,1],[v,(v/2^16),16],0,out,(s+9),0⟩).trans<|(aL hok hC (j:=35) (w:=403701760) rfl rfl rfl).trans ?_
 congr 1
 exact if_neg hl
theorem KP (hl:¬65536≤out.length):runM okI C inp (n+10) ⟨p+36,[0,r1,r2,0,0,0,0,0,0,0,0,0,0,0,0,1],[v,m1,m2],0,out,s,0⟩=runM okI C inp n ⟨p+46,[0,(v/2^24),24,0,0,0,0,0,0,0,0,0,0,0,0,1],[v,(v/2^24),24],0,(out++[UInt8.ofNat (v/2^24)]),(s+10),0⟩:=by
 refine
 (aL hok hC (j:=36) (w:=269484032) rfl rfl rfl:_=runM okI C inp (n+9) ⟨p+37,[0,v,r2,0,0,0,0,0,0,0,0,0,0,0,0,1],[v,m1,m2],0,out,(s+1),0⟩).trans <|
 (aL hok hC (j:=37) (w:=286261249) rfl rfl rfl:_=runM okI C inp (n+8) ⟨p+38,[0,v,r2,0,0,0,0,0,0,0,0,0,0,0,0,1],[v,v,m2],0,out,(s+2),0⟩).trans <|
 (aL hok hC (j:=38) (w:=17825816) rfl rfl rfl:_=runM okI C inp (n+7) ⟨p+39,[0,24,r2,0,0,0,0,0,0,0,0,0,0,0,0,1],[v,v,m2],0,out,(s+3),0⟩).trans <|
 (aL hok hC (j:=39) (w:=286261250) rfl rfl rfl:_=runM okI C inp (n+6) ⟨p+40,[0,24,r2,0,0,0,0,0,0,0,0,0,0,0,0,1],[v,v,24],0,out,(s+4),0⟩).trans <|
 (aL hok hC (j:=40) (w:=269484033) rfl rfl rfl:_=runM okI C inp (n+5) ⟨p+41,[0,v,r2,0,0,0,0,0,0,0,0,0,0,0,0,1],[v,v,24],0,out,(s+5),0⟩).trans <|
 (aL hok hC (j:=41) (w:=270532610) rfl rfl rfl:_=runM okI C inp (n+4) ⟨p+42,[0,v,24,0,0,0,0,0,0,0,0,0,0,0,0,1],[v,v,24],0,out,(s+6),0⟩).trans <|
 (aL hok hC (j:=42) (w:=219217922) rfl rfl rfl:_=runM okI C inp (n+3) ⟨p+43,[0,(v/2^24),24,0,0,0,0,0,0,0,0,0,0,0,0,1],[v,v,24],0,out,(s+7),0⟩).trans <|
 (aL hok hC (j:=43) (w:=286261249) rfl rfl rfl:_=runM okI C inp (n+2) ⟨p+44,[0,(v/2^24),24,0,0,0,0,0,0,0,0,0,0,0,0,1],[v,(v/2^24),24],0,out,(s+8),0⟩).trans <|
 (aL hok hC (j:=44) (w:=269484033) rfl rfl rfl:_=runM okI C inp (n+1) ⟨p+45,[0,(v/2^24),24,0,0,0,0,0,0,0,0,0,0,0,0,1],[v,(v/2^24),24],0,out,(s+9),0⟩).trans<|(aL hok hC (j:=45) (w:=403701760) rfl rfl rfl).trans ?_
 congr 1
 exact if_neg hl
theorem last{n r1 r2 m0 m1 m2 s:Nat}:runM okI C inp (n+1) ⟨p+46,[0,r1,r2,0,0,0,0,0,0,0,0,0,0,0,0,1],[m0,m1,m2],0,out,s,0⟩=⟨p+46,[0,r1,r2,0,0,0,0,0,0,0,0,0,0,0,0,1],[m0,m1,m2],0,out,(s+1),1⟩:=by
 refine(aL hok hC (j:=46) (w:=436207616) rfl rfl rfl).trans ?_
 exact rv (fun h=>by cases h) n
theorem Bo{n r1 r2 m0 a b s x:Nat} (h4:4≤k) (h15:k≤13) (hx:applyN k a b=some x) (hn:60≤n):(runM okI C inp n ⟨p,[0,r1,r2,0,0,0,0,0,0,0,0,0,0,0,0,1],[m0,a,b],0,[],s,0⟩).fin=1∧(runM okI C inp n ⟨p,[0,r1,r2,0,0,0,0,0,0,0,0,0,0,0,0,1],[m0,a,b],0,[],s,0⟩).out=[UInt8.ofNat (x/2^0),UInt8.ofNat (x/2^8),UInt8.ofNat (x/2^16),UInt8.ofNat (x/2^24)]:=by
 obtain⟨n,rfl⟩:∃j,n=j+1+10+10+10+10+3+1+2:=⟨n-47,a6⟩
 rw[front hok hC,opd hok hC h4 h15 hx,mid hok hC,KM hok hC a8,KN hok hC a7,KO hok hC a7,KP hok hC a7,last hok hC]
 exact⟨rfl,rfl⟩
theorem Bp{n r1 r2 m0 a b s:Nat} (h4:4≤k) (h15:k≤13) (hx:applyN k a b=none) (hn:60≤n):(runM okI C inp n ⟨p,[0,r1,r2,0,0,0,0,0,0,0,0,0,0,0,0,1],[m0,a,b],0,[],s,0⟩).fin=2∧(runM okI C inp n ⟨p,[0,r1,r2,0,0,0,0,0,0,0,0,0,0,0,0,1],[m0,a,b],0,[],s,0⟩).out=[]:=by
 obtain⟨n,rfl⟩:∃j,n=j+1+2:=⟨n-3,a6⟩
 rw[front hok hC,opz hok hC h4 h15 hx]
 exact⟨rfl,rfl⟩
end
end
section
section
variable {okI:Nat→Nat→Nat→Nat→Bool} (hli:∀c,c<65536→okW okI (17825792+c)=true) (hlu:∀c,c<65536→okW okI (34603008+c)=true)
include hli hlu
theorem Ea {C:List Nat}{inp:Str}{q n f r1 r2 m0 m1 m2 s:Nat} (hn:n<4294967296) (hC:∀j w,(cB n)[j]? = some w→C[q+j]? = some w) :
  runM okI C inp (f+(cB n).length) ⟨q,[0,r1,r2,0,0,0,0,0,0,0,0,0,0,0,0,1],[m0,m1,m2],0,[],s,0⟩=runM okI C inp f ⟨q+(cB n).length,[0,n,r2,0,0,0,0,0,0,0,0,0,0,0,0,1],[m0,m1,m2],0,[],s+(cB n).length,0⟩:=by
 unfold cB at hC ⊢
 split at hC
 ·next h=>
  rw[if_pos h]
  have h1:=hC 0 (17825792+n%65536) rfl
  have h2:=hC 1 (34603008+n/65536) rfl
  show runM okI C inp (f+1+1) _=_
  refine(ll (w:=17825792+n%65536) (hli _ a6) rfl h1).trans ?_
  rw[show (17825792+n%65536)/16777216=1 by omega,show (17825792+n%65536)/1048576%16=1 by omega,show (17825792+n%65536)/65536%16=0 by omega,show (17825792+n%65536)%65536=n%65536 by omega]
  refine(ll (w:=34603008+n/65536) (hlu _ a6) rfl h2).trans ?_
  rw[show (34603008+n/65536)/16777216=2 by omega,show (34603008+n/65536)/1048576%16=1 by omega,show (34603008+n/65536)/65536%16=0 by omega,show (34603008+n/65536)%65536=n/65536 by omega]
  show runM okI C inp f ⟨q+1+1,[0,n%65536%65536+n/65536*65536,r2,0,0,0,0,0,0,0,0,0,0,0,0,1],[m0,m1,m2],0,[],s+1+1,0⟩=_
  rw[show n%65536%65536+n/65536*65536=n by omega]
  rfl
 ·next h=>
  rw[if_neg h]
  have h1:=hC 0 (17825792+n) rfl
  show runM okI C inp (f+1) _=_
  refine(ll (w:=17825792+n) (hli _ a6) rfl h1).trans ?_
  rw[show (17825792+n)/16777216=1 by omega,show (17825792+n)/1048576%16=1 by omega,show (17825792+n)/65536%16=0 by omega,show (17825792+n)%65536=n by omega]
  rfl
end
theorem vj (n:Nat):(cB n).length≤2:=by unfold cB;split <;> simp
variable {x y:List Nat}
theorem behind{i j w:Nat} (hi:i=x.length) (h:y[j]? = some w):(x++y)[i+j]? = some w:=by
 rw[hi,B8 a6,I7,h]
theorem within{j w:Nat} (h:x[j]? = some w):(x++y)[j]? = some w:=by
 rw[F6 (l0.1 h).1,h]
section
variable {okI:Nat→Nat→Nat→Nat→Bool}{k a b:Nat} (hli:∀c,c<65536→okW okI (17825792+c)=true) (hlu:∀c,c<65536→okW okI (34603008+c)=true)
 (h0:[32505857,286261249,286261250].all (okW okI)=true) (hok:(kC k).all (okW okI)=true)
include hli hlu h0
theorem Bq {inp:Str}{f:Nat} (ha:a<4294967296) (hb:b<4294967296):runM okI (jj k a b) inp (f+1+(cB b).length+1+(cB a).length+1) (start 3) =
  runM okI (jj k a b) inp f ⟨3+(cB a).length+(cB b).length,[0,b,0,0,0,0,0,0,0,0,0,0,0,0,0,1],[0,a,b],0,[],3+(cB a).length+(cB b).length,0⟩:=by
 have hk:∀w∈[32505857,286261249,286261250],okW okI w=true:=r0.1 h0
 have e:jj k a b=[32505857]++(cB a++([286261249]++(cB b++([286261250]++kC k)))):=rfl
 refine(ll (w:=32505857) (hk _ a7) rfl rfl).trans ?_
 show runM okI (jj k a b) inp (f+1+(cB b).length+1+(cB a).length) ⟨1,[0,0,0,0,0,0,0,0,0,0,0,0,0,0,0,1],[0,0,0],0,[],1,0⟩=_
 refine(Ea hli hlu ha fun j w hj=>?_).trans ?_
 ·rw[e];exact behind rfl (within hj)
 refine(ll (w:=286261249) (hk _ a7) rfl ?_).trans ?_
 ·show (jj k a b)[1+(cB a).length]? = _
  rw[e];exact behind rfl (behind (j:=0) rfl rfl)
 show runM okI (jj k a b) inp (f+1+(cB b).length) ⟨1+(cB a).length+1,[0,a,0,0,0,0,0,0,0,0,0,0,0,0,0,1],[0,a,0],0,[],1+(cB a).length+1,0⟩=_
 refine(Ea hli hlu hb fun j w hj=>?_).trans ?_
 ·rw[e,show 1+(cB a).length+1+j=1+((cB a).length+(1+j)) by omega];exact behind rfl (behind rfl (behind rfl (within hj)))
 refine(ll (w:=286261250) (hk _ a7) rfl ?_).trans ?_
 ·show (jj k a b)[1+(cB a).length+1+(cB b).length]? = _
  rw[e,show 1+(cB a).length+1+(cB b).length=1+((cB a).length+(1+((cB b).length+0))) by omega];exact behind rfl (behind rfl (behind rfl (behind rfl rfl)))
 show runM okI (jj k a b) inp f ⟨1+(cB a).length+1+(cB b).length+1,[0,b,0,0,0,0,0,0,0,0,0,0,0,0,0,1],[0,a,b],0,[],1+(cB a).length+1+(cB b).length+1,0⟩=_
 rw[show 1+(cB a).length+1+(cB b).length+1=3+(cB a).length+(cB b).length by omega]
include hok
theorem Eb (ha:a<4294967296) (hb:b<4294967296) (h4:4≤k) (h13:k≤13) {n:Nat} (hn:70≤n):∃st,wR okI (jj k a b) 3 [] n =
  match applyN k a b with|some x=>(1,[UInt8.ofNat (x/2^0),UInt8.ofNat (x/2^8),UInt8.ofNat (x/2^16),UInt8.ofNat (x/2^24)],st)|none=>(2,[],st):=by
 have hla:=vj a
 have hlb:=vj b
 have hC:∀j,(jj k a b)[3+(cB a).length+(cB b).length+j]? = (kC k)[j]?:=fun j=>by
  unfold jj
  rw[show 3+(cB a).length+(cB b).length+j=((cB a).length+((cB b).length+(j+1)+1))+1 by omega,l8,B8 a6,I7,l8,B8 a6,I7,l8]
 obtain⟨f,rfl,hf⟩:∃f,n=f+1+(cB b).length+1+(cB a).length+1∧60≤f:=⟨n-3-(cB a).length-(cB b).length,a6,a6⟩
 unfold wR
 simp only
 rw[Bq hli hlu h0 ha hb]
 cases hx:applyN k a b with
 |none=>
   obtain⟨h1,h2⟩:=Bp hok hC (inp:=[]) (m0:=0) (r1:=b) (r2:=0) (s:=3+(cB a).length+(cB b).length) h4 h13 hx hf
   rw[h1,h2]
   exact⟨_,rfl⟩
 |some x=>
   obtain⟨h1,h2⟩:=Bo hok hC (inp:=[]) (m0:=0) (r1:=b) (r2:=0) (s:=3+(cB a).length+(cB b).length) h4 h13 hx hf
   rw[h1,h2]
   exact⟨_,rfl⟩
end
end
end
end Go.Mach
namespace Go.Proofs.YtbojbioflppbdaaGreatDoor.Low
section
open Go Go.Am Go.Asm Go.Mach
open Go.Src (ao gk ct)
open Go.Emit (ak aj mF)
def iQ (n:Nat):Src.Ex:=.mk 1 0 n [] []
def yI:Src.Ex:=.mk 2 0 0 [118] []
def wS (i:Nat):Src.Stm:=.mk 3 [] [.mk 6 13 0 [] [yI,iQ (8*i)]] [] []
def lm (k a b:Nat):Src.Prog:=⟨[[118]],[],[⟨[109,97,105,110],[],[],false,[.mk 1 [118] [.mk 6 k 0 [] [iQ a,iQ b]] [] [],wS 0,wS 1,wS 2,wS 3]⟩]⟩
theorem KQ (k a b:Nat):szP (lm k a b)≤2000:=by
 rw[show szP (lm k a b)=22 by kernel_rfl];decide
theorem OP (k a b:Nat) (h4:4≤k) (h13:k≤13):ct (lm k a b)=0:=by
 obtain h|h|h|h|h|h|h|h|h|h:k=4∨k=5∨k=6∨k=7∨k=8∨k=9∨k=10∨k=11∨k=12∨k=13:=a6
 all_goals (subst h;kernel_rfl)
def vk:Emit.Plan:=⟨[[0,1,2,1,0,1,2,1,0,1,2,1,0,1,2,1,0,1,2,1,0]],[1],[1],3⟩
theorem OQ (k a b:Nat):ej (lm k a b)=vk:=c8
def Hv (k a b:Nat):Lower.Code:=[(⟨1,0,0,a⟩,0),(⟨1,0,0,b⟩,1),(⟨6,k,0,0⟩,2),(⟨3,0,0,0⟩,1),(⟨2,0,0,0⟩,0),(⟨1,0,0,0⟩,1),
  (⟨6,13,0,0⟩,2),(⟨13,0,0,0⟩,1),(⟨2,0,0,0⟩,0),(⟨1,0,0,8⟩,1),(⟨6,13,0,0⟩,2),(⟨13,0,0,0⟩,1),
  (⟨2,0,0,0⟩,0),(⟨1,0,0,16⟩,1),(⟨6,13,0,0⟩,2),(⟨13,0,0,0⟩,1),(⟨2,0,0,0⟩,0),(⟨1,0,0,24⟩,1),
  (⟨6,13,0,0⟩,2),(⟨13,0,0,0⟩,1),(⟨11,0,0,0⟩,0)]
theorem OR (k a b:Nat):(ao (lm k a b)).words=1:=c8
def px (n:Nat):List Emit.MI:=if 65535<n then [(1,1,0,(n:Int)%65536),(2,1,0,Emit.hi16 n)] else [(1,1,0,(n:Int)%65536)]
theorem IK (n:Nat):Emit.mF 1 n=fun _=>⟨px n,[]⟩:=by
 unfold Emit.mF px
 by_cases h:65535<n
 ·rw[if_pos h,if_pos a6];rfl
 ·rw[if_neg h,if_neg a6];rfl
def Rl (l:List (Nat→Emit.Wr)):Nat→Emit.Wr:=l.foldl Emit.ak Emit.eE
theorem OS (k a b:Nat):Emit.pZ (ao (lm k a b)).funcs vk 0 (Hv k a b) [0,1,2,1,0,1,2,1,0,1,2,1,0,1,2,1,0,1,2,1,0] 21 =
  Rl [ak (mF 1 a) (aj 17 1 0 1),ak (mF 1 b) (aj 17 1 0 2),ak (aj 16 1 0 1) (ak (aj 16 2 0 2) (ak (aj k 1 1 2) (aj 17 1 0 1))),ak (aj 16 1 0 1) (aj 17 1 0 0),
   ak (aj 16 1 0 0) (aj 17 1 0 1),ak (aj 1 1 0 0) (aj 17 1 0 2),ak (aj 16 1 0 1) (ak (aj 16 2 0 2) (ak (aj 13 1 1 2) (aj 17 1 0 1))),ak (aj 16 1 0 1) (aj 24 1 0 0),
   ak (aj 16 1 0 0) (aj 17 1 0 1),ak (aj 1 1 0 8) (aj 17 1 0 2),ak (aj 16 1 0 1) (ak (aj 16 2 0 2) (ak (aj 13 1 1 2) (aj 17 1 0 1))),ak (aj 16 1 0 1) (aj 24 1 0 0),
   ak (aj 16 1 0 0) (aj 17 1 0 1),ak (aj 1 1 0 16) (aj 17 1 0 2),ak (aj 16 1 0 1) (ak (aj 16 2 0 2) (ak (aj 13 1 1 2) (aj 17 1 0 1))),ak (aj 16 1 0 1) (aj 24 1 0 0),
   ak (aj 16 1 0 0) (aj 17 1 0 1),ak (aj 1 1 0 24) (aj 17 1 0 2),ak (aj 16 1 0 1) (ak (aj 16 2 0 2) (ak (aj 13 1 1 2) (aj 17 1 0 1))),ak (aj 16 1 0 1) (aj 24 1 0 0),aj 26 0 0 0]:=c8
theorem Ec (k a b:Nat):(Emit.whole (ao (lm k a b)).funcs vk).code=(1,15,0,1)::(Emit.pZ (ao (lm k a b)).funcs vk 0 (Hv k a b) [0,1,2,1,0,1,2,1,0,1,2,1,0,1,2,1,0,1,2,1,0] 21 1).code:=c8
theorem Br (k a b:Nat):(Emit.whole (ao (lm k a b)).funcs vk).holes=(Emit.pZ (ao (lm k a b)).funcs vk 0 (Hv k a b) [0,1,2,1,0,1,2,1,0,1,2,1,0,1,2,1,0,1,2,1,0] 21 1).holes:=c8
theorem qg:∀(cs:List (List Emit.MI)) (X:List Emit.MI),(cs.map fun c=>((fun _=>⟨c,[]⟩:Nat→Emit.Wr))).foldl ak (fun _=>⟨X,[]⟩)=fun _=>⟨X++cs.flatten,[]⟩
 |[],X=>by simp
 |c::cs,X=>by
   rw[l5,L1,show ak (fun _=>⟨X,[]⟩) (fun _=>⟨c,[]⟩)=fun _=>⟨X++c,[]⟩ from rfl,qg cs (X++c),D3,s6]
def zR (i:Int):List (List Emit.MI):=[[(16,1,0,0),(17,1,0,1)],[(1,1,0,i),(17,1,0,2)],[(16,1,0,1),(16,2,0,2),(13,1,1,2),(17,1,0,1)],[(16,1,0,1),(24,1,0,0)]]
def sj (k:Nat):List (List Emit.MI):=[[(16,1,0,1),(16,2,0,2),((k:Int),1,1,2),(17,1,0,1)],[(16,1,0,1),(17,1,0,0)]]++zR 0++zR 8++zR 16++zR 24++[[(26,0,0,0)]]
def allM (k a b:Nat):List Emit.MI:=(1,15,0,1)::(px a++((17,1,0,1)::(px b++((17,1,0,2)::(sj k).flatten))))
theorem Hw (k a b:Nat):Emit.filled (Emit.whole (ao (lm k a b)).funcs vk)=allM k a b:=by
 have hu:=OS k a b
 rw[IK a,IK b] at hu
 have hs:Emit.pZ (ao (lm k a b)).funcs vk 0 (Hv k a b) [0,1,2,1,0,1,2,1,0,1,2,1,0,1,2,1,0,1,2,1,0] 21=fun _=>⟨([px a++[(17,1,0,1)],px b++[(17,1,0,2)]]++sj k).flatten,[]⟩:=by
  rw[hu]
  exact(show _=_ by kernel_rfl:_=(([px a++[(17,1,0,1)],px b++[(17,1,0,2)]]++sj k).map fun c=>((fun _=>⟨c,[]⟩:Nat→Emit.Wr))).foldl ak (fun _=>⟨[],[]⟩)).trans (qg _ [])
 have hh:(Emit.whole (ao (lm k a b)).funcs vk).holes=[]:=by rw[Br,hs]
 unfold Emit.filled allM
 rw[hh,Ec,hs]
 generalize sj k=R
 simp
def qh (c:Int):Bool:=decide (0≤c)&&decide (c≤65535)
theorem Ed (n:Nat) (hn:n<4294967296):(px n).all kY=true∧(px n).map iI=cB n:=by
 have r1:∀c,kY (1,1,0,c)=qh c:=fun c=>by kernel_rfl
 have r2:∀c,kY (2,1,0,c)=qh c:=fun c=>by kernel_rfl
 have w1:∀c,iI (1,1,0,c)=17825792+c.toNat:=fun c=>by
  show Asm.word 1 1 0 c.toNat=_
  unfold Asm.word
  omega
 have w2:∀c,iI (2,1,0,c)=34603008+c.toNat:=fun c=>by
  show Asm.word 2 1 0 c.toNat=_
  unfold Asm.word
  omega
 have hh:Emit.hi16 n=((n/65536:Nat):Int):=by unfold Emit.hi16;omega
 unfold px cB
 split
 ·simp only[D7,List.all_nil,l5,w7,r1,r2,w1,w2,qh,hh,H8,l7,z8]
  refine⟨⟨⟨a6,a6⟩,a6,a6⟩,?_⟩
  rw[show ((n:Int)%65536).toNat=n%65536 by omega,show (((n/65536:Nat):Int)).toNat=n/65536 by omega]
 ·simp only[D7,List.all_nil,l5,w7,r1,w1,qh,H8,l7,z8]
  refine⟨⟨a6,a6⟩,?_⟩
  rw[show ((n:Int)%65536).toNat=n by omega]
theorem Bt (k a b:Nat) (h4:4≤k) (h13:k≤13) (ha:a<4294967296) (hb:b<4294967296):dH (lm k a b)=((jj k a b,3),0):=by
 have hs:=OP k a b h4 h13
 have hc:(gk (lm k a b)).2=0:=by
  unfold Src.gk
  rw[if_neg (by rw[hs];decide),if_neg (by rw[OR];decide)]
 obtain⟨a1,a2⟩:=Ed a ha
 obtain⟨b1,b2⟩:=Ed b hb
 have hr:(sj k).flatten.all kY=true∧(sj k).flatten.map iI=kC k∧(sj k).flatten.length=47:=by
  obtain h|h|h|h|h|h|h|h|h|h:k=4∨k=5∨k=6∨k=7∨k=8∨k=9∨k=10∨k=11∨k=12∨k=13:=a6
  all_goals (subst h;decide +kernel)
 obtain⟨r1,r2,r3⟩:=hr
 unfold dH
 rw[if_neg (by rw[hc];simp),OQ]
 unfold oq
 rw[if_neg a8,Hw]
 simp only
 have hl:∀n,(px n).length≤2:=fun n=>by unfold px;split <;> simp
 have hla:=hl a
 have hlb:=hl b
 unfold allM
 rw[if_neg (by simp only[j6,j4,r3];omega),if_pos (by
  simp only[D7,H5,a1,b1,r1,w9]
  decide +kernel)]
 simp only[l5,A3,a2,b2,r2]
 rfl
end
end Go.Proofs.YtbojbioflppbdaaGreatDoor.Low
namespace Go.Am
section
theorem xN (p:Nat→Bool) {s:St}{t:Nat}{cs:List C}{ds:List D} (ht:s.f t=.agg cs) (hl:ds.length=cs.length) (hd:∀(j:Nat) (c:C) (x:D),cs[j]? = some c→ds[j]? = some x→dU (fun i=>p i=true) s c x) :
  ag s ⟨upd s.f t (.agg (ds.map .d)),s.gen,fun i=>if p i=true then none else s.obj i⟩:=by
 intro b₀ N β a w hr
 have hob':∀id,((if p id=true then none else s.obj id).isSome=true)→(s.obj id).isSome=true∧¬p id=true:=fun id h=>by
  by_cases hp:p id=true
  ·rw[if_pos hp] at h;cases h
  ·rw[if_neg hp] at h;exact⟨h,hp⟩
 have hkeep:eb b₀ β s.gen s.obj w β s.gen (fun i=>if p i=true then none else s.obj i) w:=
  ⟨fun b hb=>⟨⟨hb.1,hb.2.1,fun id a' h1 h2=>hb.2.2 id a' (hob' id h1).1 h2⟩,rfl⟩,fun _=>j9 _,
   fun id _ h=>⟨(hob' id h).1,rfl,fun a' _ arr el fr h1=>⟨arr,el,fr,h1,j9 _⟩⟩⟩
 refine⟨β,⟨hr.defers,hr.size,fun i=>?_,fun id cells' hc'=>?_,fun i1 i2 a1 a2 h1 h2=>hr.inj i1 i2 a1 a2 (hob' i1 h1).1 (hob' i2 h2).1,hr.base⟩,j9 _,fun _ _=>rfl,hkeep,rfl,rfl⟩
 ·simp only[upd]
  by_cases hi:i=t
  ·rw[if_pos hi]
   have h1:=hr.f i
   rw[hi,ht] at h1
   rw[hi]
   obtain⟨vs,hv,hsz,hc⟩:=h1
   refine⟨vs,hv,by rw[hsz,j5,hl],fun j c hj=>?_⟩
   rw[x7] at hj
   cases hx:ds[j]? with
   |none=>rw[hx] at hj;cases hj
   |some x=>
     rw[hx] at hj
     cases hj
     have hjl:j<cs.length:=by rw[←hl];exact(l0.1 hx).1
     obtain⟨u,hu,hrc⟩:=hc j cs[j] (s7 hjl)
     exact⟨u,hu,dU.rep hob' hr (hd j cs[j] x (s7 hjl) hx) hrc⟩
  ·rw[if_neg hi]
   exact ae.keep hkeep _ (hr.f i)
 ·simp only at hc'
  by_cases hp:p id=true
  ·rw[if_pos hp] at hc';cases hc'
  ·rw[if_neg hp] at hc'
   have:=hr.obj id cells' hc'
   cases hβ:β id with
   |none=>rw[hβ] at this;exact this
   |some ad=>
     rw[hβ] at this
     exact cG.keep hkeep this (fun _ _=>rfl)
theorem Co {P:Nat→Prop}{s:St}{id g n:Nat}{cells:List C}{e:List D} (hp:P id) (hg:s.gen id=g) (ho:s.obj id=some cells) (hl:cells.length=n) (he:e.length=n) (hf:∀(j:Nat) (c:C) (x:D),cells[j]? = some c→e[j]? = some x→dU P s c x):dU P s (.osl id g n 0 1) (.sl [e]):=by
 have hfl:[e].flatten=e:=a7
 have hc:∀(j:Nat) (x:D),[e].flatten[j]? = some x→cells[0+j]? = some ((cells[j]?).getD (.d .nsl)):=fun j x hx=>by
  rw[hfl] at hx
  have hj:j<cells.length:=by rw[hl,←he];exact(l0.1 hx).1
  rw[C2,s7 hj]
  rfl
 refine .osl hp hg ho a6 rfl (fun e' he'=>by rw[C5.1 he'];exact he) (fun j=>(cells[j]?).getD (.d .nsl)) hc fun j x hx=>?_
 have h:=hc j x hx
 rw[hfl] at hx
 rw[C2] at h
 exact hf j _ x h hx
end
end Go.Am
namespace Go.Proofs.YtbojbioflppbdaaGreatDoor.Low
section
attribute [local congr] Go.Am.ite_cc
open Go Go.Am Go.Asm Go.Mach
section
theorem vl (n:Nat):exV (iQ n)=.agg [.d (.int .i64 1),.d (.int .i64 0),.d (.int .u32 n),.d (.str []),.d (.sl [])]:=rfl
theorem sk (n:Nat):aR Tryz.prog 10 [iv .u32 n] (· = exV (iQ n)):=by
 refine bM ac mixed Tryz.func10 rfl b9 [.cell 2 44] rfl c8 (by simp[Tryz.ntmps10]) fun g=>?_
 simp only[go_sem]
 refine⟨_,⟨[.int .i64 1,.int .i64 0,.int .u32 n,.str [],.sl []],rfl,fun i c hc=>?_,rfl⟩,rfl⟩
 match i,hc with
 |0,hc=>cases hc;exact⟨_,rfl,.d _⟩
 |1,hc=>cases hc;exact⟨_,rfl,.d _⟩
 |2,hc=>cases hc;exact⟨_,rfl,.d _⟩
 |3,hc=>cases hc;exact⟨_,rfl,.d _⟩
 |4,hc=>cases hc;exact⟨_,rfl,.d _⟩
def Rm (k a b:Nat):Src.Stm:=.mk 1 [118] [.mk 6 k 0 [] [iQ a,iQ b]] [] []
def jE (k a b j:Nat):List Src.Stm:=Rm k a b::(List.range j).map wS
theorem Ee (k a b j:Nat):(jE k a b j).length=j+1:=by simp[jE]
theorem Bu (k a b j:Nat):jE k a b (j+1)=jE k a b j++[wS j]:=by simp[jE,N1]
theorem uc (j:Nat):(smD (wS j)).map C.d=[.d (.int .i64 3),.d (.str []),.d (.sl [exD (.mk 6 13 0 [] [yI,iQ (8*j)])]),.d (.sl []),.d (.sl [])]:=rfl
theorem Hx (e:Src.Stm):(smD e).length=5:=by cases e;simp[smD]
theorem qO (e:Src.Ex):(exD e).length=5:=by cases e;simp[exD]
variable {P:Nat→Prop}{s:St}
theorem Ef{a b c d:D}{c5:C}{x5:D} (h:dU P s c5 x5):∀(j:Nat) (x x':C),([.d a,.d b,.d c,.d d,c5]:List C)[j]? = some x→([.d a,.d b,.d c,.d d,.d x5]:List C)[j]? = some x'→x'=x∨∃y,dU P s x y∧x'=.d y
 |0,_,_,h1,h2=>by cases h1;cases h2;exact .inl rfl
 |1,_,_,h1,h2=>by cases h1;cases h2;exact .inl rfl
 |2,_,_,h1,h2=>by cases h1;cases h2;exact .inl rfl
 |3,_,_,h1,h2=>by cases h1;cases h2;exact .inl rfl
 |4,_,_,h1,h2=>by cases h1;cases h2;exact .inr ⟨_,h,rfl⟩
 |_+5,_,_,h1,_=>by cases h1
theorem OT{a b:D}{c3:C}{x3:D} (h:dU P s c3 x3):∀(j:Nat) (x x':C),([.d a,.d b,c3,.d .nsl,.d .nsl]:List C)[j]? = some x→([.d a,.d b,.d x3,.d (.sl []),.d (.sl [])]:List C)[j]? = some x'→x'=x∨∃y,dU P s x y∧x'=.d y
 |0,_,_,h1,h2=>by cases h1;cases h2;exact .inl rfl
 |1,_,_,h1,h2=>by cases h1;cases h2;exact .inl rfl
 |2,_,_,h1,h2=>by cases h1;cases h2;exact .inr ⟨_,h,rfl⟩
 |3,_,_,h1,h2=>by cases h1;cases h2;exact .inr ⟨_,.nil,rfl⟩
 |4,_,_,h1,h2=>by cases h1;cases h2;exact .inr ⟨_,.nil,rfl⟩
 |_+5,_,_,h1,_=>by cases h1
theorem Bv{L A A':List C} (h:∀(j:Nat) (x x':C),A[j]? = some x→A'[j]? = some x'→x'=x∨∃y,dU P s x y∧x'=.d y) (j:Nat) (x x':C) (h1:(L++A)[j]? = some x) (h2:(L++A')[j]? = some x'):x'=x∨∃y,dU P s x y∧x'=.d y:=by
 by_cases hj:j<L.length
 ·rw[F6 hj] at h1 h2
  rw[h1] at h2
  cases h2;exact .inl rfl
 ·rw[B8 a6] at h1 h2
  exact h _ _ _ h1 h2
theorem Bw (k a b:Nat) (h13:k≤13) (ha:a<4294967296) (hb:b<4294967296):∀x∈jj k a b,x<4294967296:=by
 have hn:∀n,n<4294967296→∀x∈cB n,x<4294967296:=fun n hn x hx=>by
  unfold cB at hx
  split at hx <;> simp at hx <;> omega
 have ht:∀x∈kC k,x<4294967296:=fun x hx=>by
  unfold kC at hx
  simp only[x9,A1,E4] at hx
  omega
 intro x hx
 unfold jj at hx
 simp only[x9,C8] at hx
 rcases hx with h|h|h|h|h|h
 ·omega
 ·exact hn a ha x h
 ·omega
 ·exact hn b hb x h
 ·omega
 ·exact ht x h
theorem Hy (k a b:Nat):(jj k a b).length≤1000:=by
 have ha:=vj a
 have hb:=vj b
 unfold jj
 simp only[j6,j4,kC,j7]
 omega
theorem Hz (k a b:Nat) (h4:4≤k) (h13:k≤13) (ha:a<4294967296) (hb:b<4294967296):∃st,wR okI (jj k a b) 3 [] (fp 0 (jj k a b) 3) =
  match applyN k a b with|some x=>(1,[UInt8.ofNat (x/2^0),UInt8.ofNat (x/2^8),UInt8.ofNat (x/2^16),UInt8.ofNat (x/2^24)],st)|none=>(2,[],st):=by
 have hli:∀c,c<65536→Mach.okW okI (17825792+c)=true:=fun c hc=>by
  unfold Mach.okW
  rw[show (17825792+c)/16777216=1 by omega,show (17825792+c)/1048576%16=1 by omega,show (17825792+c)/65536%16=0 by omega,show (17825792+c)%65536=c by omega,show okI 1 1 0 c=qh c by kernel_rfl]
  unfold qh
  simp only[l7,z8]
  omega
 have hlu:∀c,c<65536→Mach.okW okI (34603008+c)=true:=fun c hc=>by
  unfold Mach.okW
  rw[show (34603008+c)/16777216=2 by omega,show (34603008+c)/1048576%16=1 by omega,show (34603008+c)/65536%16=0 by omega,show (34603008+c)%65536=c by omega,show okI 2 1 0 c=qh c by kernel_rfl]
  unfold qh
  simp only[l7,z8]
  omega
 have hok:(kC k).all (Mach.okW okI)=true:=by
  obtain h|h|h|h|h|h|h|h|h|h:k=4∨k=5∨k=6∨k=7∨k=8∨k=9∨k=10∨k=11∨k=12∨k=13:=a6
  all_goals (subst h;decide +kernel)
 have hl:10≤(jj k a b).length:=by
  unfold jj
  simp only[j6,j4,kC,j7]
  omega
 refine Eb hli hlu c9 hok ha hb h4 h13 ?_
 show 70≤8*(0+1)*((jj k a b).length+3+1)
 omega
theorem Eg (x:Nat):dN [x]=[UInt8.ofNat (x/2^0),UInt8.ofNat (x/2^8),UInt8.ofNat (x/2^16),UInt8.ofNat (x/2^24)]:=by
 have h:∀n:Nat,UInt8.ofNat (n%256)=UInt8.ofNat n:=fun n=>by
  apply UInt8.toNat_inj.1
  simp
 simp only[dN,sd,D1,List.flatMap_nil,l9,h,Nat.pow_zero,Nat.div_one,Nat.reducePow]
theorem IL {o:cN} (ht:iK o) (op a b:Nat) (ho:op<256) (ha:a<4294967296) (hb:b<4294967296):bR Tryz.prog 1 o 4 [iv .u8 op,iv .u32 a,iv .u32 b] (· = bv true):=by
 refine ax 0 1 o ac mixed Tryz.func4 rfl b9 [.tmp 6] rfl c8 c8 (by simp[Tryz.ntmps4]) fun b₀ β0 s0 w0 g=>?_
 simp only[go_sem]
 refine am ab (fun s β ds w h=>h.1.2) rfl (by simp only[go_sem];exact zb ht) (by simp only[go_sem];rfl) ?_
 rintro _ rfl
 have hm:IntKind.i64.wrap (op:Int)=(op:Int):=by rw[wrap_i64] <;> omega
 obtain⟨k,hk⟩:∃k,4+op%10=k:=⟨_,rfl⟩
 have hki:IntKind.i64.wrap (4+(op:Int).tmod 10)=(k:Int):=by
  rw[←hk,Int.tmod_eq_emod_of_nonneg a6,wrap_i64] <;> omega
 have h4:4≤k:=a6
 have h13:k≤13:=a6
 simp only[go_sem,hm,hki]
 refine aF ab rfl (by simp only[go_sem];exact sk a) (by simp only[go_sem];rfl) ?_
 rintro _ rfl
 rw[vl]
 simp only[go_sem]
 refine cT ac mixed ab [31,10] [([7],[0,1],[],false),([9],[1],[],false),([2],[1],[],false),([29],[1],[],false),([28,30],[1],[0],false),([27,31],[1],[],false),([],[0],[1],false),([10,32],[],[],true)] 2 rfl c9 rfl a8 ?_
 simp only[go_sem]
 iterate 3 (apply au;(case hg=>first|exact s9|exact⟨_,rfl,by decide,rfl⟩);(case h1=>intro fa ga oa K' hK;simp only[go_sem] at hK ⊢;exact hK))
 refine au (v:=exV (iQ b)) s9 (fun fa ga oa K' hK=>?_) ?_
 ·simp only[go_sem] at hK ⊢
  refine aF ab rfl (by simp only[go_sem];exact sk b) (by simp only[go_sem];rfl) ?_
  rintro _ rfl
  simp only[go_sem]
  exact hK
 rw[vl]
 (apply bI;(case hg=>first|exact s9|exact⟨_,rfl,by decide,rfl⟩);(case h1=>intro fa ga oa K' hK;simp only[go_sem] at hK ⊢;exact hK))
 (apply au;(case hg=>first|exact s9|exact⟨_,rfl,by decide,rfl⟩);(case h1=>intro fa ga oa K' hK;simp only[go_sem] at hK ⊢;exact hK))
 (apply bI;(case hg=>first|exact s9|exact⟨_,rfl,by decide,rfl⟩);(case h1=>intro fa ga oa K' hK;simp only[go_sem] at hK ⊢;exact hK))
 refine cU s9 ?_
 intro K' hK'
 simp only[go_sem]
 refine hK' _ ?_
 clear hK' K'
 simp only[go_sem]
 refine kx _ ((ki (id:=31) (o:=34) (cells:=[.d (.int .i64 6),.d (.int .i64 k),.d (.int .u32 0),.d (.str []),.osl 31 (nxC (aH Tt 42+1) (g 31)) 5 0 2]) (cs:=[.d (.int .i64 6),.d (.int .i64 k),.d (.int .u32 0),.d (.str []),.d (.sl [exD (iQ a),exD (iQ b)])]) (by simp only[go_sem]) rfl
    (Ef (cg (P:=(· = 31)) rfl (by simp only[go_sem]) [iQ a,iQ b] exD (cells:=exC [iQ a,iQ b]) (by simp only[go_sem];rfl) rfl (fun a _=>qO a) rfl))).trans
   (ki (id:=34) (o:=36) (cells:=[.d (.int .i64 1),.d (.str [118]),.osl 34 (nxC (aH Tt 42+1) (g 34)) 5 0 1,.d .nsl,.d .nsl]) (cs:=smC (jE k a b 0)) (by simp only[St.drop1];simp only[go_sem]) rfl
     (OT (cg (P:=(· = 34)) rfl (by simp only[St.drop1];simp only[go_sem]) [.mk 6 k 0 [] [iQ a,iQ b]] exD (cells:=exC [.mk 6 k 0 [] [iQ a,iQ b]]) (by simp only[St.drop1];simp only[go_sem];rfl) rfl (fun a _=>qO a) rfl)))
   |>.trans (ki (id:=9) (o:=8) (cells:=[.d (.int .i64 2),.d (.int .i64 0),.d (.int .u32 0),.d (.str [118]),.d .nsl]) (cs:=[.d (.int .i64 2),.d (.int .i64 0),.d (.int .u32 0),.d (.str [118]),.d (.sl [])]) (by simp only[St.drop1];simp only[go_sem]) rfl (Ef .nil)))
  (fun z st=>∃j:Nat,z+j=4∧st.f 1=iv .u32 a∧st.f 2=iv .u32 b∧st.f 7=iv .i64 k∧st.f 12=iv .i64 j∧st.f 11=.one (.osl 36 (st.gen 36) 5 0 (j+1))∧st.obj 36=some (smC (jE k a b j))∧st.f 8=.one (.ptr 8 (st.gen 8) 0)∧st.obj 8=some [.d (.int .i64 2),.d (.int .i64 0),.d (.int .u32 0),.d (.str [118]),.d (.sl [])]) 4 ?_ ?_
 ·simp only[St.drop1]
  refine⟨0,rfl,?_⟩
  simp only[go_sem]
 rintro z f g1 ob1 ⟨j,hz,q1,q2,q7,q12,q11,o36,q8,o8⟩
 simp only at q1 q2 q7 q12 q11 o36 q8 o8
 have hbl:(smC (jE k a b j)).length=(j+1)*5:=by rw[zF,Ee]
 by_cases hj:j<4
 ·have hji:(j:Int)<4:=a6
  have hw1:IntKind.i64.wrap (8*(j:Int))=((8*j:Nat):Int):=by rw[wrap_i64] <;> omega
  have hw2:IntKind.u32.wrap ((8*j:Nat):Int)=((8*j:Nat):Int):=by
   rw[IntKind.wrap_u32];omega
  have hw:=ai (k:=j) a6
  simp only[go_sem,q12,hji]
  refine cT ac mixed ab [47,49,51,36] [([11],[0,1,2],[],false),([8],[],[],false),([12],[],[],false),([43],[],[],false),([44],[],[],false),([45],[],[],false),([42,46],[],[0],false),([47],[],[],false),([48],[],[1],false),([49],[],[],false),([50],[],[2],false),([41,51],[],[3],false),([52],[],[],true)] 4 rfl c9 rfl a8 ?_
  simp only[go_sem]
  iterate 5 (apply au;(case hg=>first|exact s9|exact⟨_,rfl,by decide,rfl⟩);(case h1=>intro fa ga oa K' hK;simp only[go_sem,q11,q8,o8,q12,hw1,hw2] at hK ⊢;exact hK))
  refine au (v:=exV (iQ (8*j))) s9 (fun fa ga oa K' hK=>?_) ?_
  ·simp only[go_sem] at hK ⊢
   refine aF ab rfl (by simp only[go_sem];exact sk (8*j)) (by simp only[go_sem];rfl) ?_
   rintro _ rfl
   simp only[go_sem]
   exact hK
  rw[vl]
  (apply bI;(case hg=>first|exact s9|exact⟨_,rfl,by decide,rfl⟩);(case h1=>intro fa ga oa K' hK;simp only[go_sem] at hK ⊢;exact hK))
  (apply au;(case hg=>first|exact s9|exact⟨_,rfl,by decide,rfl⟩);(case h1=>intro fa ga oa K' hK;simp only[go_sem] at hK ⊢;exact hK))
  (apply bI;(case hg=>first|exact s9|exact⟨_,rfl,by decide,rfl⟩);(case h1=>intro fa ga oa K' hK;simp only[go_sem] at hK ⊢;exact hK))
  (apply au;(case hg=>first|exact s9|exact⟨_,rfl,by decide,rfl⟩);(case h1=>intro fa ga oa K' hK;simp only[go_sem] at hK ⊢;exact hK))
  (apply bI;(case hg=>first|exact s9|exact⟨_,rfl,by decide,rfl⟩);(case h1=>intro fa ga oa K' hK;simp only[go_sem] at hK ⊢;exact hK))
  refine bI (a:=3) (v:=.one (.osl 36 (nxC (apC 48 (g1 36) 0) (g1 36)) 5 0 (j+1+1))) (x:=nxC (apC 48 (g1 36) 0) (g1 36)) (y:=some (smC (jE k a b j)++[.d (.int .i64 3),.d (.str []),.osl 49 (nxC (aH Tt 42+1) (g1 49)) 5 0 1,.d .nsl,.d .nsl])) s9 (fun fa ga oa K' hK=>?_) ?_
  ·have e1:List.take ((j+1)*5) (smC (jE k a b j))=smC (jE k a b j):=l6 a6
   simp only[go_sem,aH,o36,hbl] at hK ⊢
   rw[e1]
   exact⟨j9 _,⟨a8,a6⟩,hK⟩
  refine cU s9 ?_
  intro K' hK'
  simp only[go_sem]
  refine hK' _ ?_
  clear hK' K'
  simp only[go_sem,q12,hw]
  refine⟨z-1,_,a6,(ki (id:=47) (o:=49) (cells:=[.d (.int .i64 6),.d (.int .i64 13),.d (.int .u32 0),.d (.str []),.osl 47 (nxC (aH Tt 42+1) (g1 47)) 5 0 2]) (cs:=[.d (.int .i64 6),.d (.int .i64 13),.d (.int .u32 0),.d (.str []),.d (.sl [exD yI,exD (iQ (8*j))])]) (by simp only[go_sem]) rfl
    (Ef (cg (P:=(· = 47)) rfl (by simp only[go_sem]) [yI,iQ (8*j)] exD (cells:=exC [yI,iQ (8*j)]) (by simp only[go_sem];rfl) rfl (fun a _=>qO a) rfl))).trans
   (ki (id:=49) (o:=36) (cells:=smC (jE k a b j)++[.d (.int .i64 3),.d (.str []),.osl 49 (nxC (aH Tt 42+1) (g1 49)) 5 0 1,.d .nsl,.d .nsl]) (cs:=smC (jE k a b j)++(smD (wS j)).map .d) (by simp only[St.drop1];simp only[go_sem]) (by rw[uc,j4,j4];rfl)
     (Bv (by
       rw[uc]
       exact OT (cg (P:=(· = 49)) rfl (by simp only[St.drop1];simp only[go_sem]) [.mk 6 13 0 [] [yI,iQ (8*j)]] exD (cells:=exC [.mk 6 13 0 [] [yI,iQ (8*j)]]) (by simp only[St.drop1];simp only[go_sem];rfl) rfl (fun a _=>qO a) rfl)))),j+1,a6,?_⟩
  simp only[St.drop1]
  simp only[go_sem,q1,q2,q7,q8,o8]
  rw[Bu,zH,zG]
 have hji:¬(j:Int)<4:=a6
 obtain rfl:j=4:=a6
 simp only[go_sem,q12,q11]
 have hI:=qL ht (p:=lm k a b) (KQ k a b)
 rw[Bt k a b h4 h13 ha hb] at hI
 have hcode:∀x∈jj k a b,x<4294967296:=Bw k a b h13 ha hb
 have hlen:(jj k a b).length≤1000:=Hy k a b
 obtain⟨st,hx⟩:=Hz k a b h4 h13 ha hb
 generalize jj k a b=code at hI hcode hlen hx
 unfold eg gU at hI
 obtain⟨X0,h0⟩:∃X,(lm k a b).vars.map (fun s=>[D.str s])=X:=⟨_,rfl⟩
 obtain⟨X1,h1⟩:∃X,(lm k a b).arrays.map arD=X:=⟨_,rfl⟩
 obtain⟨X2,h2⟩:∃X,(lm k a b).funcs.map fnD=X:=⟨_,rfl⟩
 rw[h0,h1,h2] at hI
 refine wz ab _ (xN (fun i=>i==36||i==54||i==57) (t:=58) (ds:=[.sl X0,.sl X1,.sl X2]) (by simp only[go_sem];rfl) rfl fun j c x hc hx=>?_) ?_
 ·match j,hc,hx with
  |0,hc,hx=>
    cases hc;cases hx
    rw[←h0]
    exact cg (P:=fun i=>(i==36||i==54||i==57)=true) rfl (by simp only[go_sem]) [[118]] (fun s=>[D.str s]) (cells:=[.d (.str [118])]) (by simp only[go_sem]) rfl (fun _ _=>rfl) rfl
  |1,hc,hx=>
    cases hc;cases hx
    rw[←h1]
    exact .nil
  |2,hc,hx=>
    cases hc;cases hx
    rw[←h2]
    refine Co (P:=fun i=>(i==36||i==54||i==57)=true) rfl (by simp only[go_sem]) (cells:=[.d (.str [109,97,105,110]),.d .nsl,.d .nsl,.d (.bool false),.osl 36 (g1 36) 5 0 5]) (by simp only[go_sem]) rfl rfl fun j c x hc hx=>?_
    match j,hc,hx with
    |0,hc,hx=>cases hc;cases hx;exact .d _
    |1,hc,hx=>cases hc;cases hx;exact .nil
    |2,hc,hx=>cases hc;cases hx;exact .nil
    |3,hc,hx=>cases hc;cases hx;exact .d _
    |4,hc,hx=>
      cases hc;cases hx
      exact cg (P:=fun i=>(i==36||i==54||i==57)=true) rfl (by simp only[go_sem]) (jE k a b 4) smD (cells:=smC (jE k a b 4)) (by simp only[go_sem,o36]) rfl (fun a _=>Hx a) rfl
 refine am ab (fun s β ds w h=>h.1.2) rfl (by simp only[go_sem];exact hI) (by simp only[go_sem];rfl) ?_
 rintro _ rfl
 unfold nz eU
 simp only[go_sem]
 have hfu:fp 0 code 3≤500000000000:=by
  show 8*(0+1)*(code.length+3+1)≤_
  omega
 have hA:=Hc k a b h4 a6 ha hb
 cases hap:applyN k a b with
 |none=>
   rw[hap] at hx hA
   refine cT ac mixed ab [15] [([13],[0],[],false),([13],[0],[],false),([65],[0],[],false),([64,66],[0],[],false),([],[],[0],false),([15,67],[],[],true)] 1 rfl c9 rfl a8 ?_
   simp only[go_sem]
   iterate 2 (apply au;(case hg=>first|exact s9|exact⟨_,rfl,by decide,rfl⟩);(case h1=>intro fa ga oa K' hK;simp only[go_sem] at hK ⊢;exact hK))
   refine au (v:=iv .i64 (fp 0 code 3:Nat)) s9 (fun fa ga oa K' hK=>?_) ?_
   ·simp only[go_sem] at hK ⊢
    refine aF ab rfl (by simp only[go_sem];exact F_A 0 code 3 a8 a6 a8) (by simp only[go_sem];rfl) ?_
    rintro _ rfl
    simp only[go_sem]
    exact hK
   refine au (v:=ve (2,[],st)) s9 (fun fa ga oa K' hK=>?_) ?_
   ·simp only[go_sem] at hK ⊢
    refine aF ab rfl (by simp only[go_sem];exact qN code 3 [] (fp 0 code 3) a6 hcode a8 hfu) (by simp only[go_sem];rfl) ?_
    rintro _ rfl
    rw[hx]
    simp only[go_sem]
    exact hK
   unfold ve
   (apply bI;(case hg=>first|exact s9|exact⟨_,rfl,by decide,rfl⟩);(case h1=>intro fa ga oa K' hK;simp only[go_sem] at hK ⊢;exact hK))
   refine cU s9 ?_
   intro K' hK'
   simp only[go_sem]
   refine hK' _ ?_
   clear hK' K'
   simp only[go_sem,q7,q1,q2]
   refine aF ab rfl (by simp only[go_sem,q7,q1,q2];exact hA) (by simp only[go_sem,q7,q1,q2];rfl) ?_
   rintro _ rfl
   unfold yr
   simp only[go_sem,q7,q1,q2]
 |some x=>
   rw[hap] at hx hA
   simp only at hx
   rw[←Eg x] at hx
   have hxl:=ua ha hb hap
   refine cT ac mixed ab [15] [([13],[0],[],false),([13],[0],[],false),([65],[0],[],false),([64,66],[0],[],false),([],[],[0],false),([15,67],[],[],true)] 1 rfl c9 rfl a8 ?_
   simp only[go_sem]
   iterate 2 (apply au;(case hg=>first|exact s9|exact⟨_,rfl,by decide,rfl⟩);(case h1=>intro fa ga oa K' hK;simp only[go_sem] at hK ⊢;exact hK))
   refine au (v:=iv .i64 (fp 0 code 3:Nat)) s9 (fun fa ga oa K' hK=>?_) ?_
   ·simp only[go_sem] at hK ⊢
    refine aF ab rfl (by simp only[go_sem];exact F_A 0 code 3 a8 a6 a8) (by simp only[go_sem];rfl) ?_
    rintro _ rfl
    simp only[go_sem]
    exact hK
   refine au (v:=ve (1,dN [x],st)) s9 (fun fa ga oa K' hK=>?_) ?_
   ·simp only[go_sem] at hK ⊢
    refine aF ab rfl (by simp only[go_sem];exact qN code 3 [] (fp 0 code 3) a6 hcode a8 hfu) (by simp only[go_sem];rfl) ?_
    rintro _ rfl
    rw[hx]
    simp only[go_sem]
    exact hK
   unfold ve
   (apply bI;(case hg=>first|exact s9|exact⟨_,rfl,by decide,rfl⟩);(case h1=>intro fa ga oa K' hK;simp only[go_sem] at hK ⊢;exact hK))
   refine cU s9 ?_
   intro K' hK'
   simp only[go_sem]
   refine hK' _ ?_
   clear hK' K'
   simp only[go_sem,q7,q1,q2]
   refine aF ab rfl (by simp only[go_sem,q7,q1,q2];exact hA) (by simp only[go_sem,q7,q1,q2];rfl) ?_
   rintro _ rfl
   unfold yr
   simp only[go_sem,q7,q1,q2]
   refine cT ac mixed ab [92] [([15],[],[],false),([85],[],[],false),([86],[],[],false),([87],[],[],false),([15,88],[0],[],false),([89,88],[0],[],false),([16,88],[],[],false),([91,88],[],[0],false),([92,88],[],[],false),([90,93,88],[],[],false),([88,94],[],[],false),([95],[],[],true)] 1 rfl c9 rfl a8 ?_
   simp only[go_sem]
   iterate 7 (apply au;(case hg=>first|exact s9|exact⟨_,rfl,by decide,rfl⟩);(case h1=>intro fa ga oa K' hK;simp only[go_sem] at hK ⊢;exact hK))
   (apply bI;(case hg=>first|exact s9|exact⟨_,rfl,by decide,rfl⟩);(case h1=>intro fa ga oa K' hK;simp only[go_sem] at hK ⊢;exact hK))
   refine au (v:=sv (dN [x])) ?_ (fun fa ga oa K' hK=>?_) ?_
   ·first|exact s9|exact⟨_,rfl,by decide,rfl⟩
   ·simp only[go_sem] at hK ⊢
    refine xG (xs:=[.one (.d (eL [x]))]) ab (fun s β ds w h=>h.1.2) rfl ?_ (vf [x] a7).toG (by rintro _ rfl;rfl) ?_
    ·simp only[go_sem]
     exact⟨_,_,rfl,⟨_,de (by simp only[go_sem]) [x] (fun n=>[D.int .u32 (n:Nat)]) (cells:=[.d (.int .u32 (x:Nat))]) (by simp only[go_sem]) rfl (fun _ _ y hy=>by rw[C5.1 hy];rfl) (fun _ _=>rfl) rfl,rfl⟩,rfl⟩
    rintro _ rfl
    simp only[go_sem]
    exact hK
   iterate 2 (apply au;(case hg=>first|exact s9|exact⟨_,rfl,by decide,rfl⟩);(case h1=>intro fa ga oa K' hK;simp only[go_sem] at hK ⊢;exact hK))
   refine cU ?_ ?_
   ·first|exact s9|exact⟨_,rfl,by decide,rfl⟩
   intro K' hK'
   simp only[go_sem]
   refine hK' _ ?_
   clear hK' K'
   simp only[go_sem]
end
end
end Go.Proofs.YtbojbioflppbdaaGreatDoor.Low
namespace Go.Am
section
section
section
variable {P:Program}{t:TypeId}{ds:List D}
theorem jW.inv_int {k:IntKind} (h:jW P t ds) (hu:P.underlying t=some (.int k)):∃m,ds=[.int k m]∧(Lit.int k m).wf=true:=by
 cases h with
 |int hu' m hw=>rw[hu] at hu';cases hu';exact⟨m,rfl,hw⟩
 |bool hu'=>rw[hu] at hu';cases hu'
 |str hu'=>rw[hu] at hu';cases hu'
 |sl hu'=>rw[hu] at hu';cases hu'
 |struct hu'=>rw[hu] at hu';cases hu'
 |array hu'=>rw[hu] at hu';cases hu'
theorem jW.inv_str (h:jW P t ds) (hu:P.underlying t=some .string):∃s,ds=[.str s]∧s.length≤reachBytes:=by
 cases h with
 |str _ s hl=>exact⟨s,rfl,hl⟩
 |bool hu'=>rw[hu] at hu';cases hu'
 |int hu'=>rw[hu] at hu';cases hu'
 |sl hu'=>rw[hu] at hu';cases hu'
 |struct hu'=>rw[hu] at hu';cases hu'
 |array hu'=>rw[hu] at hu';cases hu'
end
end
end
end Go.Am
namespace Go.Proofs.YtbojbioflppbdaaGreatDoor
section
open Go Go.Am Go.ChangeShapes Go.WideShapes Go.ChangeAt Go.RowKit Go.Lib
theorem own:ownKnob Tryz.prog.godebug=none:=c8
theorem laidOut:laidOutB Tryz.prog=true:=c8
def nY:List (String×DataW Unit):=[("seedcorn/token.words",Rows.laid_seedcorn_token_words),("seedcorn/token.signs",Rows.laid_seedcorn_token_signs)]
theorem u9:Tryz.prog.underlying 9=some .string:=c8
theorem u4:Tryz.prog.underlying 4=some .bool:=c8
theorem u3:Tryz.prog.underlying 3=some (.int .i64):=c8
theorem u41:Tryz.prog.underlying 41=some (.int .u32):=c8
theorem u5:Tryz.prog.underlying 5=some (.int .u8):=c8
def tys:List TypeId:=[3,5,9,41]
theorem kS:ux Tryz.prog tys=true:=c8
theorem na {H:Type}{enc:TypeId×Value→H}{P:Program}{w:World}{base:Nat}{sp:Nat→Bool}{held:Bool}{fuel:Nat}{t e:TypeId}{n:Nat}{cs:List Value}{zs:List (List UInt8)}{p:List MemPlace}
  (ht:P.underlying t=some (.array n e)) (he:P.underlying e=some .string) (hce:P.cellsOf e=1) (hct:P.cellsOf t=n)
  (h:DataW.trod enc P w base sp held fuel t cs=some (DataW.agg (zs.map fun z=>.lit (.string z)),p)):∀(i:Nat) z,zs[i]? = some z→cs[i]? = some (.string ⟨z.toArray⟩):=by
 cases fuel with
 |zero=>simp[DataW.trod] at h
 |succ fuel=>
   simp only[DataW.trod,ht,hce,hct,J1] at h
   split at h
   ·obtain⟨xs,hm,hx⟩:=I0.1 h
    have hxs:xs.map (·.1)=zs.map fun z=>(DataW.lit (.string z):DataW H):=by
     have:=congrArg Prod.fst hx
     simpa using this
    have hxl:xs.length=n:=by simpa using mapM_length hm
    have hzl:zs.length=n:=by
     have:=congrArg List.length hxs
     simp at this
     omega
    intro i z hz
    have hi:i<n:=by
     have:=(l0.1 hz).1
     omega
    obtain⟨b,hb,hf⟩:=mapM_at hm i i (by simp[hi])
    obtain⟨s,hc,rfl,_⟩:=DataW.trod_string he hf
    have h1:cs[i]? = some (.string s):=by
     have:=congrArg (·[0]?) hc
     simpa[G7,F9] using this
    have h2:(xs.map (·.1))[i]? = some (DataW.lit (.string s.data.toList):DataW H):=by simp[hb]
    rw[hxs,x7,hz] at h2
    have h3:z=s.data.toList:=by simpa using h2
    rw[h1,h3]
   ·cases h
theorem tE {W:World} (h:laidMetH Tryz.prog nY W):∃o,qr 1 o W∧iK o:=by
 rw[MakeChecks.laidMetH_plain _ _ _ c8] at h
 have hwordsT:∀(i:Nat) z,Src.Ej[i]? = some z→W.cell? ⟨1,i,none⟩=some (.string ⟨z.toArray⟩):=by
  obtain⟨g,t,cs,fuel,p,hg,hty,hvar,hd⟩:=laidMet.reads h (n:= "seedcorn/token.words") (d:=Rows.laid_seedcorn_token_words) (by simp[nY])
  obtain rfl:=F0 ((show Tryz.prog.globalNamed "seedcorn/token.words" = some 1 by kernel_rfl).symm.trans hg)
  obtain rfl:=F0 ((show (Tryz.prog.globals[1]?).map (·.type)=some 225 by kernel_rfl).symm.trans hty)
  intro i z hz
  have hc:=na (H:=Unit) (zs:=Src.Ej) (show Tryz.prog.underlying 225=some (.array 10 9) by kernel_rfl) u9 c8 c8 hd i z hz
  rw[World.var?_cell hg hvar i,←G5]
  exact hc
 have hsignsT:∀(i:Nat) z,Src.KS[i]? = some z→W.cell? ⟨0,i,none⟩=some (.string ⟨z.toArray⟩):=by
  obtain⟨g,t,cs,fuel,p,hg,hty,hvar,hd⟩:=laidMet.reads h (n:= "seedcorn/token.signs") (d:=Rows.laid_seedcorn_token_signs) (by simp[nY])
  obtain rfl:=F0 ((show Tryz.prog.globalNamed "seedcorn/token.signs" = some 0 by kernel_rfl).symm.trans hg)
  obtain rfl:=F0 ((show (Tryz.prog.globals[0]?).map (·.type)=some 171 by kernel_rfl).symm.trans hty)
  intro i z hz
  have hc:=na (H:=Unit) (zs:=Src.KS) (show Tryz.prog.underlying 171=some (.array 24 9) by kernel_rfl) u9 c8 c8 hd i z hz
  rw[World.var?_cell hg hvar i,←G5]
  exact hc
 have h0:=hwordsT 0 _ rfl
 have hlt:1<W.heap.size:=by
  refine Nat.lt_of_not_le fun hle=>?_
  simp[World.cell?,I1 hle] at h0
 refine⟨fun b=>W.heap[b]?,⟨hlt,fun _ _=>rfl⟩,fun w hw=>⟨fun i t ht=>?_,fun i t ht=>?_⟩⟩
 ·rw[←hwordsT i t ht]
  unfold World.cell?
  rw[show w.heap[1]? = W.heap[1]? from hw.2 1 a8]
 ·rw[←hsignsT i t ht]
  unfold World.cell?
  rw[show w.heap[0]? = W.heap[0]? from hw.2 0 a8]
end
section
open Go Go.Am
def Qn:List FuncId:=[3,5,13,6,16,17,36,57,37,38,58,35,39,40,59,83,130,131,153,155,154,164,132,133,15,33,53,76,54,55,56,77,78,79,80,82,81,84,34,18,41,42,60,43,61,85,62,86,29,7,19,44,63,87,134,88,135,90,91,89,136,137,64,92,138,139,144,156,140,141,142,93,143,94,45,46,65,66,20,21,23,50,72,123,146,147,157,124,148,158,73,22,47,67,95,96,97,98,145,99,48,68,100,101,69,102,103,104,105,106,107,108,109,110,111,112,113,114,115,116,117,118,70,119,49,71,120,121,122,30,31,52,12,14,32,9,8,25,24,51,74,125,149,159,160,161,75,126,127,128,129,150,162,163,151,152]
theorem clo:Tryz.prog.closure 3=Qn:=c8
theorem Ct:Tryz.prog.unfollowed 3=true:=by
 unfold Program.unfollowed
 rw[clo]
 kernel_rfl
theorem Nt:Tryz.prog.recurses 3=true:=by
 unfold Program.recurses
 rw[Ct]
 rfl
theorem Nu:(Rows.stackcEchoRow.inPlace==Tryz.prog.inPlace 3)=true:=by
 unfold Program.inPlace
 rw[clo]
 kernel_rfl
theorem Nv:(Rows.stackcEchoRow.named==Tryz.prog.varsNamed 3)=true:=by
 unfold Program.varsNamed
 rw[clo]
 kernel_rfl
theorem JC:Tryz.prog.goes 3=false:=by
 unfold Program.goes
 rw[clo,Ct]
 kernel_rfl
theorem FN:joinedFacts Tryz.prog 3 Tryz.f3 Rows.stackcEchoSpec Rows.stackcEchoRow=true:=by
 unfold joinedFacts
 rw[Nu,Nv,Ct,Nt]
 kernel_rfl
theorem Cu:false=Rows.stackcEchoRow.goesBy Tryz.prog:=by
 unfold OpenClaim.goesBy Program.goesAt Program.goesFrom
 rw[show Tryz.prog.funcNamed Rows.stackcEchoRow.func=some 3 by kernel_rfl]
 simp only[Option.any_some,JC,L5]
 rfl
def Rn:List FuncId:=[4,5,13,6,16,17,36,57,37,38,58,35,39,40,59,83,130,131,153,155,154,164,132,133,15,33,53,76,54,55,56,77,78,79,80,82,81,84,34,18,41,42,60,43,61,85,62,86,29,7,19,44,63,87,134,88,135,90,91,89,136,137,64,92,138,139,144,156,140,141,142,93,143,94,45,46,65,66,20,21,23,50,72,123,146,147,157,124,148,158,73,22,47,67,95,96,97,98,145,99,48,68,100,101,69,102,103,104,105,106,107,108,109,110,111,112,113,114,115,116,117,118,70,119,49,71,120,121,122,30,31,52,12,14,32,9,8,25,24,51,74,125,149,159,160,161,75,126,127,128,129,150,162,163,151,152,10,11,26,27,28]
theorem HA:Tryz.prog.closure 4=Rn:=c8
theorem Eh:Tryz.prog.unfollowed 4=true:=by
 unfold Program.unfollowed
 rw[HA]
 kernel_rfl
theorem OU:Tryz.prog.recurses 4=true:=by
 unfold Program.recurses
 rw[Eh]
 rfl
theorem OV:(Rows.stackcOpsRow.inPlace==Tryz.prog.inPlace 4)=true:=by
 unfold Program.inPlace
 rw[HA]
 kernel_rfl
theorem OW:(Rows.stackcOpsRow.named==Tryz.prog.varsNamed 4)=true:=by
 unfold Program.varsNamed
 rw[HA]
 kernel_rfl
theorem KR:Tryz.prog.goes 4=false:=by
 unfold Program.goes
 rw[HA,Eh]
 kernel_rfl
theorem HB:joinedFacts Tryz.prog 4 Tryz.f4 Rows.stackcOpsSpec Rows.stackcOpsRow=true:=by
 unfold joinedFacts
 rw[OV,OW,Eh,OU]
 kernel_rfl
theorem Ei:false=Rows.stackcOpsRow.goesBy Tryz.prog:=by
 unfold OpenClaim.goesBy Program.goesAt Program.goesFrom
 rw[show Tryz.prog.funcNamed Rows.stackcOpsRow.func=some 4 by kernel_rfl]
 simp only[Option.any_some,KR,L5]
 rfl
end
end Go.Proofs.YtbojbioflppbdaaGreatDoor

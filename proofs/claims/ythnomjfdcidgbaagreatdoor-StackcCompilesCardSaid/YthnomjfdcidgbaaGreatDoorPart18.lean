/- A part of the proof; no conditions. -/
import Derived.Test.YthnomjfdcidgbaaGreatDoorPart17
import Derived.Shelf.SlicesE.Clone
import Derived.Lib.LaidTab
import Derived.Lib.LaidU8
import Derived.OpenShut
import Derived.Laws.IdiomArrays
import Derived.Test.YthnomjfdcidgbaaGreatDoorTie
import Derived.Test.YthnomjfdcidgbaaGreatDoorCards
set_option linter.unusedSimpArgs false
set_option linter.unusedVariables false
set_option maxHeartbeats 64000000
set_option maxRecDepth 100000
namespace Go.Mach
section
open Go.Asm (Str)
section
variable {s:Str}
theorem Rr{a b c d:UInt8} (h0:s[0]? = some a) (h1:s[1]? = some b) (h2:s[2]? = some c) (h3:s[3]? = some d):s.take 4=[a,b,c,d]:=by
 match s with
 |a'::b'::c'::d'::r=>
   simp at h0 h1 h2 h3
   subst h0 h1 h2 h3
   rfl
 |[]=>simp at h0
 |[_]=>simp at h1
 |[_,_]=>simp at h2
 |[_,_,_]=>simp at h3
def fy (s:Str) (k:Nat):Nat:=w4 (s.getD k 0) (s.getD (k+1) 0) (s.getD (k+2) 0) (s.getD (k+3) 0)
theorem kJ{k:Nat} (h:k<s.length):s[k]? = some (s.getD k 0):=by rw[C4,w8 h];rfl
theorem qW (s:Str) (k:Nat):fy s k<4294967296:=by
 unfold fy w4
 have ha:=(s.getD k 0).toNat_lt;have hb:=(s.getD (k+1) 0).toNat_lt;have hc:=(s.getD (k+2) 0).toNat_lt;have hd:=(s.getD (k+3) 0).toNat_lt
 omega
theorem qX{o k:Nat} (h:o+4*k+4≤s.length):(gk (s.drop o))[k]? = some (fy s (o+4*k)):=by
 unfold fy
 refine tW _ _ ?_ ?_ ?_ ?_ <;> rw[D8]
 ·exact kJ a6
 ·rw[show o+(4*k+1)=o+4*k+1 by omega];exact kJ a6
 ·rw[show o+(4*k+2)=o+4*k+2 by omega];exact kJ a6
 ·rw[show o+(4*k+3)=o+4*k+3 by omega];exact kJ a6
theorem AI (h:12≤s.length):gk ((s.take 12).drop 4)=[fy s 4,fy s 8]:=by
 have hlen8:((s.take 12).drop 4).length=8:=by rw[A2,D2];omega
 have hwl:=pk ((s.take 12).drop 4)
 rw[hlen8] at hwl
 have hl:(s.take 12).length=12:=by rw[D2];omega
 have hg:∀j,j<12→(s.take 12).getD j 0=s.getD j 0:=fun j hj=>by
  rw[C4,C4,G5,if_pos hj]
 have e0:=qX (s:=s.take 12) (o:=4) (k:=0) a6
 have e1:=qX (s:=s.take 12) (o:=4) (k:=1) a6
 unfold fy at e0 e1
 rw[hg _ a8,hg _ a8,hg _ a8,hg _ a8] at e0 e1
 match hx:gk ((s.take 12).drop 4),hwl with
 |[a,b],_=>
   rw[hx] at e0 e1
   simp at e0 e1
   rw[e0,e1]
   rfl
theorem ze (h:12≤s.length) (h2:s.take 4=[83,69,69,68]) :
  jY s=if 16384<fy s 4∨32768<fy s 8∨s.length≠12+4*fy s 4 then none else some (gk (s.drop 12),fy s 8):=by
 unfold jY
 rw[AI h]
 simp only
 by_cases h3:65548<s.length
 ·rw[if_pos (.inr (.inr h3)),if_pos a6]
 ·rw[if_neg (by rw[not_or,not_or];exact⟨a6,fun h=>h h2,h3⟩)]
  by_cases hc:32768<fy s 8∨s.length≠12+4*fy s 4
  ·rw[if_pos hc,if_pos (.inr hc)]
  ·rw[if_neg hc,if_neg a6]
end
end
end Go.Mach
namespace Go.Proofs.YthnomjfdcidgbaaGreatDoor
section
open Go Go.Am Go.Asm Go.Mach Go.Shelf
end
section
open Go Go.Am Go.Asm Go.Mach
def okI (op a b c:Nat):Bool:=eQ (op:Nat) (a:Nat) (b:Nat) (c:Nat)
theorem CS {op a b c:Nat} (h:okI op a b c=true):1≤op∧op≤27∧(4≤op∧op≤15→c<16):=by
 unfold okI eQ at h
 rw[s6] at h
 obtain⟨h1,h2⟩:=h
 unfold jL at h1
 rw[s6,B9,B9,A7] at h1
 refine⟨h1.1,h1.2,fun h415=>?_⟩
 have hs:Asm.shape op=(true,true,2):=by
  unfold Asm.shape
  rw[if_neg a6,if_neg a6,if_pos h415]
 rw[A7] at h2
 unfold pP inW at h2
 rw[hs] at h2
 simp at h2
 omega
end
end Go.Proofs.YthnomjfdcidgbaaGreatDoor
namespace Go.Mach
section
open Go.Asm (Str)
section
section
variable {okI:Nat→Nat→Nat→Nat→Bool}{code:List Nat}{inp:Str}
def Ja (m m':M):Prop:=m'.mem.length=m.mem.length∧m'.steps≤m.steps+1∧m'.rd≤m.rd+1
theorem Jb {m m1:M} (h:m1.mem.length=m.mem.length∧m1.steps≤m.steps+1∧m1.rd=m.rd) (op a b c:Nat):Ja m (doM code inp m1 op a b c):=by
 obtain⟨h1,h2,h3⟩:=h
 have hn:Ja m m1:=⟨h1,h2,a6⟩
 have hx:∀{pc f:Nat}{r:List Nat}{o:Str},Ja m { m1 with pc:=pc,fin:=f,reg:=r,out:=o }:=⟨h1,h2,by show m1.rd≤_;omega⟩
 unfold doM
 refine di (fun _=>hx) fun _=>?_
 refine di (fun _=>hx) fun _=>?_
 refine di (fun _=>hx) fun _=>?_
 refine di (fun _=>?_) fun _=>?_
 ·cases m1.mem[(m1.r b+c)%4294967296]? <;> exact hx
 refine di (fun _=>?_) fun _=>?_
 ·cases code[(m1.r b+c)%4294967296]? <;> exact hx
 refine di (fun _=>di (fun _=>⟨by show (m1.mem.set _ _).length=_;rw[C7];exact h1,h2,by show m1.rd≤_;omega⟩) fun _=>hx) fun _=>?_
 refine di (fun _=>hx) fun _=>?_
 refine di (fun _=>hx) fun _=>?_
 refine di (fun _=>hx) fun _=>?_
 refine di (fun _=>hx) fun _=>?_
 refine di (fun _=>hx) fun _=>?_
 refine di (fun _=>?_) fun _=>?_
 ·cases inp[m1.rd]? with
  |none=>exact hx
  |some x=>exact⟨h1,h2,by show m1.rd+1≤_;omega⟩
 refine di (fun _=>di (fun _=>hx) fun _=>hx) fun _=>?_
 refine di (fun _=>di (fun _=>hx) fun _=>hx) fun _=>?_
 refine di (fun _=>hx) fun _=>?_
 cases applyN op (m1.r b) (m1.r c) <;> exact hx
theorem Db (m:M):Ja m (mA okI code inp m):=by
 unfold mA
 cases code[m.pc]? with
 |none=>exact⟨rfl,by show m.steps≤_;omega,by show m.rd≤_;omega⟩
 |some w=>exact di (fun _=>Jb (m:=m) (m1:={ m with steps:=m.steps+1 }) ⟨rfl,j8 _,rfl⟩ _ _ _ _) fun _=>⟨rfl,by show m.steps+1≤_;omega,by show m.rd≤_;omega⟩
end
end
end
end Go.Mach
namespace Go.Proofs.YthnomjfdcidgbaaGreatDoor
section
open Go Go.Am Go.Asm Go.Mach
def stD (m:M):List D:=.int .i64 (m.pc:Nat)::(m.reg.map fun x=>.int .u32 (x:Nat))++[kL m.mem,.int .i64 (m.rd:Nat),.str m.out,.int .i64 (m.steps:Nat),.int .i64 (m.fin:Nat)]
def stV (m:M):AV:=.agg ((stD m).map .d)
theorem IL {s:St}{A B:List D}{mc:C}{x:D} (hA:∀y∈A,ge y=y) (hB:∀y∈B,ge y=y) (hm:Frz s mc x):kp s (.agg (A.map .d++mc::B.map .d)) (.agg ((A++x::B).map .d)):=by
 refine⟨A++x::B,a7,fun i c hc=>?_,rfl⟩
 by_cases h1:i<A.length
 ·rw[G6 (by simpa using h1),x7] at hc
  rw[G6 h1]
  cases hx:A[i]? with
  |none=>rw[hx] at hc;cases hc
  |some y=>
    rw[hx] at hc;cases hc
    exact⟨y,rfl,by have:=Frz.d (s:=s) y;rwa [hA y (l4 hx)] at this⟩
 ·obtain⟨k,rfl⟩:∃k,i=A.length+k:=⟨i-A.length,a6⟩
  rw[F6 a7,j4,I7] at hc
  rw[F6 a6,I7]
  cases k with
  |zero=>simp at hc;subst hc;exact⟨x,rfl,hm⟩
  |succ k=>
    rw[s5,x7] at hc
    rw[s5]
    cases hx:B[k]? with
    |none=>rw[hx] at hc;cases hc
    |some y=>
      rw[hx] at hc;cases hc
      exact⟨y,rfl,by have:=Frz.d (s:=s) y;rwa [hB y (l4 hx)] at this⟩
theorem nQ {s:St}{m:M}{mc:C}{l:List C} (hm:Frz s mc (kL m.mem)) (hl:l=((.int .i64 (m.pc:Nat)::m.reg.map fun x=>D.int .u32 (x:Nat)):List D).map .d++mc::([.int .i64 (m.rd:Nat),.str m.out,.int .i64 (m.steps:Nat),.int .i64 (m.fin:Nat)]:List D).map .d):kp s (.agg l) (stV m):=by
 rw[hl]
 refine IL (fun y hy=>?_) (fun y hy=>?_) hm
 ·rcases y2.1 hy with rfl|hy
  ·rfl
  ·obtain⟨x,_,rfl⟩:=F9.1 hy;rfl
 ·simp only[y2,List.mem_nil_iff,D6] at hy
  rcases hy with rfl|rfl|rfl|rfl <;> rfl
def stC (m:M) (mc:C):List C:=((.int .i64 (m.pc:Nat)::m.reg.map fun x=>D.int .u32 (x:Nat)):List D).map .d++mc::([.int .i64 (m.rd:Nat),.str m.out,.int .i64 (m.steps:Nat),.int .i64 (m.fin:Nat)]:List D).map .d
theorem BN {m:M} (h:m.reg.length=16) (mc:C):(stC m mc).length=22:=by simp[stC,h]
theorem vp:∀(L pre cells:List C),cells.length=L.length→setAt (pre++cells) pre.length L=pre++L
 |[],pre,cells,h=>by
   obtain rfl:=v8 Yl
   rfl
 |c::L,pre,x::cells,h=>by
   unfold setAt
   have:=vp L (pre++[c]) cells Yl
   rw[r0,r0,j5] at this
   rw[show (pre++x::cells).set pre.length c=pre++([c]++cells) by simp]
   exact this
theorem nS {L cells:List C} (h:cells.length=L.length):setAt cells 0 L=L:=vp L [] cells h
def MN (r:Nat×Str×Nat):AV:=.agg [.d (.int .i64 (r.1:Nat)),.d (.str r.2.1),.d (.int .i64 (r.2.2:Nat))]
theorem FG {s:St}{a c:Int}{b:Str}:kp s (.agg [.d (.int .i64 a),.d (.str b),.d (.int .i64 c)]) (.agg [.d (.int .i64 a),.d (.str b),.d (.int .i64 c)]):=by
 refine⟨[.int .i64 a,.str b,.int .i64 c],rfl,fun i c hc'=>?_,rfl⟩
 match i,hc' with
 |0,hc'=>cases hc';exact⟨_,rfl,.d _⟩
 |1,hc'=>cases hc';exact⟨_,rfl,.d _⟩
 |2,hc'=>cases hc';exact⟨_,rfl,.d _⟩
def Aq:Option (List Nat×Nat)→AV
 |some m=>.tup [fP m,iv .i64 0]
 |none=>.tup [fP ([],0),iv .i64 7]
theorem FH {s:St}{cc:C}{code:List Nat}{d n:Nat} (hc:Frz s cc (fC code)):oK s [.agg [cc,.d (.int .i64 (d:Nat))],iv .i64 (n:Nat)] (.tup [fP (code,d),iv .i64 (n:Nat)]):=by
 refine⟨_,⟨fP (code,d),_,rfl,⟨[fC code,.int .i64 (d:Nat)],rfl,fun i c hc'=>?_,rfl⟩,_,_,rfl,⟨_,.d _,rfl⟩,rfl⟩,rfl⟩
 match i,hc' with
 |0,hc'=>cases hc';exact⟨_,rfl,hc⟩
 |1,hc'=>cases hc';exact⟨_,rfl,.d _⟩
end
section
attribute [local congr] Go.Am.ite_cc
open Go Go.Am Go.Asm Go.Mach
theorem Ay (w:Nat) (hw:w<4294967296):aA Tryz.prog 191 [iv .u32 w] (· = BM w):=by
 refine hdR Tryz.func191 rfl [.cell 2 136,.tmp 3] fun g=>?_
 have d1:((w:Nat):Int).tdiv 16777216=((w/16777216:Nat):Int):=rfl
 have d2:((w:Nat):Int).tdiv 1048576=((w/1048576:Nat):Int):=rfl
 have d3:((w:Nat):Int).tdiv 65536=((w/65536:Nat):Int):=rfl
 have m1:∀x:Nat,((x:Nat):Int).tmod 16=((x%16:Nat):Int):=fun _=>rfl
 have m2:((w:Nat):Int).tmod 65536=((w%65536:Nat):Int):=rfl
 have c64:∀x:Nat,x<4294967296→IntKind.i64.wrap ((x:Nat):Int)=((x:Nat):Int):=fun x hx=>by rw[wrap_i64] <;> omega
 have u1:=iX (n:=w/16777216) a6
 have u2:=iX (n:=w/1048576) a6
 have u3:=iX (n:=w/65536) a6
 have u4:=iX (n:=w/1048576%16) a6
 have u5:=iX (n:=w/65536%16) a6
 have u6:=iX (n:=w%65536) a6
 simp only[go_sem,d1,d2,d3,m1,m2,u1,u2,u3,u4,u5,u6,c64 (w/16777216) a6,c64 (w/1048576%16) a6,c64 (w/65536%16) a6,c64 (w%65536) a6,ff]
 refine cP rfl (by simp only[go_sem];exact Ep (w/16777216:Nat) (w/1048576%16:Nat) (w/65536%16:Nat) (w%65536:Nat)) ?_
 rintro _ rfl
 unfold BM
 cases hR:eQ (w/16777216:Nat) (w/1048576%16:Nat) (w/65536%16:Nat) (w%65536:Nat)
 ·simp only[go_sem,ff]
  exact⟨_,yy,rfl⟩
 ·simp only[go_sem,ff]
  exact⟨_,yy,rfl⟩
theorem IS (s:Str) (k:Nat) (h:k+4≤s.length) (hs:s.length≤1000000000):aA Tryz.prog 37 [sv s,iv .i64 k] (· = iv .u32 (fy s k:Nat)):=by
 refine hdP Tryz.func37 rfl [4] fun g=>?_
 have ha:=kJ (s:=s) (k:=k) a6
 have hb:=kJ (s:=s) (k:=k+1) a6
 have hc:=kJ (s:=s) (k:=k+2) a6
 have hd:=kJ (s:=s) (k:=k+3) a6
 unfold fy
 generalize s.getD k 0=a at ha ⊢
 generalize s.getD (k+1) 0=b at hb ⊢
 generalize s.getD (k+2) 0=c at hc ⊢
 generalize s.getD (k+3) 0=d at hd ⊢
 have la:=a.toNat_lt
 have lb:=b.toNat_lt
 have lc:=c.toNat_lt
 have ld:=d.toNat_lt
 have ia:IntKind.i64.wrap ((k:Int)+1)=((k+1:Nat):Int):=by rw[wrap_i64] <;> omega
 have ib:IntKind.i64.wrap ((k:Int)+2)=((k+2:Nat):Int):=by rw[wrap_i64] <;> omega
 have ic:IntKind.i64.wrap ((k:Int)+3)=((k+3:Nat):Int):=by rw[wrap_i64] <;> omega
 have p0:(0:Int)≤(k:Int):=a6
 have p1:(0:Int)≤((k+1:Nat):Int):=a6
 have p2:(0:Int)≤((k+2:Nat):Int):=a6
 have p3:(0:Int)≤((k+3:Nat):Int):=a6
 have e1:IntKind.u32.wrap (256*((b.toNat:Nat):Int))=((256*b.toNat:Nat):Int):=by rw[IntKind.wrap_u32];omega
 have e2:IntKind.u32.wrap (65536*((c.toNat:Nat):Int))=((65536*c.toNat:Nat):Int):=by rw[IntKind.wrap_u32];omega
 have e3:IntKind.u32.wrap (16777216*((d.toNat:Nat):Int))=((16777216*d.toNat:Nat):Int):=by rw[IntKind.wrap_u32];omega
 have s1:IntKind.u32.wrap (((a.toNat:Nat):Int)+((256*b.toNat:Nat):Int))=((a.toNat+256*b.toNat:Nat):Int):=by rw[IntKind.wrap_u32];omega
 have s2:IntKind.u32.wrap (((a.toNat+256*b.toNat:Nat):Int)+((65536*c.toNat:Nat):Int))=((a.toNat+256*b.toNat+65536*c.toNat:Nat):Int):=by rw[IntKind.wrap_u32];omega
 have s3:IntKind.u32.wrap (((a.toNat+256*b.toNat+65536*c.toNat:Nat):Int)+((16777216*d.toNat:Nat):Int))=((a.toNat+256*b.toNat+65536*c.toNat+16777216*d.toNat:Nat):Int):=by rw[IntKind.wrap_u32];omega
 simp only[go_sem]
 refine zj b9 ?_
 simp only[go_sem,ia,ib,ic,p0,p1,p2,p3,A7,ha,hb,hc,hd,iX (show a.toNat<4294967296 by omega),iX (show b.toNat<4294967296 by omega),iX (show c.toNat<4294967296 by omega),iX (show d.toNat<4294967296 by omega),e1,e2,e3,s1,s2,s3]
 rfl
theorem IT {x:UInt8}{n:Nat} (h:¬x=UInt8.ofNat n) (hn:n<256):¬((x.toNat:Nat):Int)=(n:Nat):=fun e=>h (L4.1 (by rw[N5];omega))
theorem Az (s:Str) (hs:s.length≤1000000000):aA Tryz.prog 12 [sv s] (· = Aq (jY s)):=by
 refine hdR Tryz.func12 rfl [.cell 2 35,.tmp 3] fun g=>?_
 have bad:jY s=none→Aq (jY s)=.tup [fP ([],0),iv .i64 7]:=fun h=>by rw[h];rfl
 by_cases h1:s.length<12
 ·have hi:(s.length:Int)<12:=a6
  rw[bad (by unfold jY;rw[if_pos (.inl h1)])]
  simp only[go_sem,hi,ff]
  exact⟨_,jH,rfl⟩
 have hi:¬(s.length:Int)<12:=a6
 obtain⟨x0,g0⟩:=getq (l:=s) (k:=0) a6
 obtain⟨x1,g1⟩:=getq (l:=s) (k:=1) a6
 obtain⟨x2,g2⟩:=getq (l:=s) (k:=2) a6
 obtain⟨x3,g3⟩:=getq (l:=s) (k:=3) a6
 have ht:=Rr g0 g1 g2 g3
 have hbad:¬(x0=83∧x1=69∧x2=69∧x3=68)→jY s=none:=fun h=>by
  unfold jY
  rw[if_pos (.inr (.inl (by rw[ht];intro e;simp only[L1,I8] at e;exact h e)))]
 by_cases c0:x0=83
 case neg=>
  rw[bad (hbad (by simp[c0]))]
  have c0:¬((x0.toNat:Nat):Int)=83:=IT (n:=83) c0 a8
  simp only[go_sem,hi,g0,g1,g2,g3,c0,ff]
  exact⟨_,jH,rfl⟩
 by_cases c1:x1=69
 case neg=>
  rw[bad (hbad (by simp[c1]))]
  have c0:((x0.toNat:Nat):Int)=83:=by rw[c0];rfl
  have c1:¬((x1.toNat:Nat):Int)=69:=IT (n:=69) c1 a8
  simp only[go_sem,hi,g0,g1,g2,g3,c0,c1,ff]
  exact⟨_,jH,rfl⟩
 by_cases c2:x2=69
 case neg=>
  rw[bad (hbad (by simp[c2]))]
  have c0:((x0.toNat:Nat):Int)=83:=by rw[c0];rfl
  have c1:((x1.toNat:Nat):Int)=69:=by rw[c1];rfl
  have c2:¬((x2.toNat:Nat):Int)=69:=IT (n:=69) c2 a8
  simp only[go_sem,hi,g0,g1,g2,g3,c0,c1,c2,ff]
  exact⟨_,jH,rfl⟩
 by_cases c3:x3=68
 case neg=>
  rw[bad (hbad (by simp[c3]))]
  have c0:((x0.toNat:Nat):Int)=83:=by rw[c0];rfl
  have c1:((x1.toNat:Nat):Int)=69:=by rw[c1];rfl
  have c2:((x2.toNat:Nat):Int)=69:=by rw[c2];rfl
  have c3:¬((x3.toNat:Nat):Int)=68:=IT (n:=68) c3 a8
  simp only[go_sem,hi,g0,g1,g2,g3,c0,c1,c2,c3,ff]
  exact⟨_,jH,rfl⟩
 have ht':s.take 4=[83,69,69,68]:=by rw[ht,c0,c1,c2,c3]
 have c0:((x0.toNat:Nat):Int)=83:=by rw[c0];rfl
 have c1:((x1.toNat:Nat):Int)=69:=by rw[c1];rfl
 have c2:((x2.toNat:Nat):Int)=69:=by rw[c2];rfl
 have c3:((x3.toNat:Nat):Int)=68:=by rw[c3];rfl
 have hI:=ze (s:=s) a6 ht'
 have hW:=IS s
 have hat:∀k,k+4≤s.length-12→True:=fun _ _=>trivial
 have hx:∀k,12+4*k+4≤s.length→(gk (s.drop 12))[k]? = some (fy s (12+4*k)):=fun k hk=>qX hk
 have hxl:(gk (s.drop 12)).length=(s.length-12)/4:=by rw[pk,A2]
 have hn:=qW s 4
 have hd:=qW s 8
 have hw4:=hW 4 a6 hs
 have hw8:=hW 8 a6 hs
 rw[hI]
 rw[hI] at bad
 clear hI hbad ht ht'
 generalize fy s 4=n at *
 generalize fy s 8=d at *
 generalize gk (s.drop 12)=xs at *
 simp only[go_sem,hi,g0,g1,g2,g3,c0,c1,c2,c3]
 refine cP rfl (by simp only[go_sem];exact hw4) ?_
 rintro _ rfl
 simp only[go_sem]
 refine cP rfl (by simp only[go_sem];exact hw8) ?_
 rintro _ rfl
 have k1:IntKind.i64.wrap ((n:Nat):Int)=((n:Nat):Int):=by rw[wrap_i64] <;> omega
 have k2:IntKind.i64.wrap (4*(n:Int))=((4*n:Nat):Int):=by rw[wrap_i64] <;> omega
 have k3:IntKind.i64.wrap (12+((4*n:Nat):Int))=((12+4*n:Nat):Int):=by rw[wrap_i64] <;> omega
 have k4:IntKind.i64.wrap ((d:Nat):Int)=((d:Nat):Int):=by rw[wrap_i64] <;> omega
 by_cases b1:16384<n
 ·rw[if_pos (.inl b1)]
  have b1:(16384:Int)<(n:Int):=a6
  simp only[go_sem,b1,ff]
  exact⟨_,jH,rfl⟩
 have b1i:¬(16384:Int)<(n:Int):=a6
 by_cases b2:32768<d
 ·rw[if_pos (.inr (.inl b2))]
  have b2:(32768:Int)<(d:Int):=a6
  simp only[go_sem,b1i,b2,ff]
  exact⟨_,jH,rfl⟩
 have b2i:¬(32768:Int)<(d:Int):=a6
 by_cases b3:s.length=12+4*n
 case neg=>
  rw[if_pos (.inr (.inr b3))]
  have b3:¬(s.length:Int)=((12+4*n:Nat):Int):=a6
  simp only[go_sem,b1i,b2i,k1,k2,k3,b3,ff]
  exact⟨_,jH,rfl⟩
 have b3i:(s.length:Int)=((12+4*n:Nat):Int):=a6
 rw[if_neg a6]
 have hxn:xs.length=n:=a6
 simp only[go_sem,b1i,b2i,k1,k2,k3,b3i,k4,ff]
 refine fV (fun N st=>∃(k:Nat) (cc:C),N+k=n∧st.f 0=sv s∧st.f 4=iv .u32 n∧st.f 7=iv .i64 (k:Nat)∧st.f 2=.one (.ptr 2 (nxC 36 (g 2)) 0)∧st.gen 2=nxC 36 (g 2)∧st.obj 2=some [.d .nsl,.d (.int .i64 0)]∧st.f 6=.one (.ptr 6 (st.gen 6) 0)∧st.obj 6=some [cc,.d (.int .i64 d)]∧
  ((k=0∧cc=.d .nsl)∨(0<k∧cc=.osl 69 (st.gen 69) 1 0 k∧st.obj 69=some (jg (xs.take k))))) n ?_ ?_
 ·refine⟨0,.d .nsl,rfl,?_⟩
  simp only[go_sem]
  exact .inl trivial
 rintro N f g' ob ⟨k,cc,hk,q0,q4,q7,q2,q2g,q2o,q6,q6o,qc⟩
 simp only at q0 q4 q7 q2 q2g q2o q6 q6o qc
 have hw:=ae (k:=k) a6
 by_cases hlt:k<n
 ·have hlti:(k:Int)<(n:Int):=a6
  have k5:IntKind.i64.wrap (4*(k:Int))=((4*k:Nat):Int):=by rw[wrap_i64] <;> omega
  have k6:IntKind.i64.wrap (12+((4*k:Nat):Int))=((12+4*k:Nat):Int):=by rw[wrap_i64] <;> omega
  have hwk:=hW (12+4*k) a6 hs
  have hxk:=hx k a6
  have hlw:=qW s (12+4*k)
  generalize fy s (12+4*k)=w at hwk hxk hlw
  have hnx:xs.take (k+1)=xs.take k++[w]:=by rw[A8,hxk];rfl
  have htl:(xs.take k).length=k:=by rw[D2];omega
  simp only[go_sem,q0,q4,q7,k1,hlti]
  refine fX aU mixed [68,69,6] [([6],[0],[],false),([61],[0],[],false),([0],[],[],false),([7],[],[],false),([64],[],[],false),([65],[],[],false),([63,66],[],[],false),([67],[],[0],false),([62,68],[],[1],false),([6],[],[],false),([70,69],[],[],true)] 3 b9 rfl a8 ?_
  simp only[go_sem]
  iterate 6 (apply aG;· (intro fa ga oa K' hK;simp only[go_sem,q0,q7,q6,q6o,k5,k6] at hK ⊢;exact hK))
  refine aG (v:=iv .u32 (w:Nat)) (fun fa ga oa K' hK=>?_) ?_
  ·simp only[go_sem] at hK ⊢
   refine eN (k:=bx K') rfl (by simp only[go_sem];exact hwk) XM ?_
   exact Wx
  (apply cK;· (intro fa ga oa K' hK;simp only[go_sem,aD] at hK ⊢;exact hK))
  rcases qc with⟨hk0,rfl⟩|⟨hk0,rfl,qo⟩
  ·(apply cK;· (intro fa ga oa K' hK;simp only[go_sem,aD] at hK ⊢;exact⟨⟨a8,a8⟩,hK⟩))
   (apply aG;· (intro fa ga oa K' hK;simp only[go_sem,q6,q6o] at hK ⊢;exact hK))
   apply cN
   intro K' hK'
   simp only[go_sem,q6,q6o]
   refine hK' _ ?_
   clear hK' K'
   simp only[go_sem,q7,hw]
   refine fE (N-1) a6 ⟨k+1,.osl 69 (nxC 75 (g' 69)) 1 0 1,a6,?_⟩
   simp only[go_sem,q0,q4,q2,q2g,q2o,q6]
   subst hk0
   refine .inr ⟨a6,rfl,?_⟩
   rw[hnx];rfl
  ·have hcl:(jg (xs.take k)).length=k:=by unfold jg;rw[j4,htl]
   (apply cK;· (intro fa ga oa K' hK;simp only[go_sem,qo,aD] at hK ⊢;exact⟨a6,⟨a8,a6⟩,hK⟩))
   (apply aG;· (intro fa ga oa K' hK;simp only[go_sem,q6,q6o] at hK ⊢;exact hK))
   apply cN
   intro K' hK'
   simp only[go_sem,q6,q6o]
   refine hK' _ ?_
   clear hK' K'
   simp only[go_sem,q7,hw]
   refine fE (N-1) a6 ⟨k+1,.osl 69 (nxC (apC 74 (g' 69) 0) (g' 69)) 1 0 (k+1),a6,?_⟩
   simp only[go_sem,q0,q4,q2,q2g,q2o,q6]
   refine .inr ⟨a6,?_⟩
   rw[hnx,l5 a6];unfold jg;simp
 ·have hlti:¬(k:Int)<(n:Int):=a6
  obtain rfl:k=n:=a6
  rw[l5 a6] at qc
  simp only[go_sem,q0,q4,q7,k1,hlti,q6,q6o,q2,q2g,q2o]
  refine⟨_,FH (code:=xs) (d:=d) (n:=0) ?_,rfl⟩
  rcases qc with⟨hk0,rfl⟩|⟨hk0,rfl,qo⟩
  ·obtain rfl:xs=[]:=v8 a6
   exact .d .nsl
  ·exact rT (cells:=jg xs) (off:=0) rfl (by simp[upd,qo]) xs (fun n=>.int .u32 (n:Nat)) (fun _=>rfl) hxn (fun j a h=>by rw[C2];unfold jg;rw[x7,h];rfl) (by unfold jg;rw[j4];omega)
theorem FO (code:List Nat) (d:Nat) (hd:d≤32768):aA Tryz.prog 39 [fP (code,d)] (· = stV (Mach.start d)):=by
 refine hdR Tryz.func39 rfl [.cell 2 95] fun g=>?_
 have hdi:(d:Int)≤32768:=a6
 unfold fP
 by_cases h0:d=0
 ·subst h0
  simp only[go_sem]
  exact⟨_,nQ (m:=Mach.start 0) (.d .nsl) rfl,rfl⟩
 ·have h0i:(0:Int)<(d:Int):=a6
  simp only[go_sem,h0i,hdi]
  refine⟨j8 _,a6,a6,_,nQ (m:=Mach.start d) ?_ rfl,rfl⟩
  exact tu (code:=List.replicate d 0) XI XI a7
def FP:Option Nat→AV
 |some x=>.tup [iv .u32 (x:Nat),bv true]
 |none=>.tup [iv .u32 0,bv false]
theorem IU (l:List Nat) (b c:Nat) (hl:l.length≤1000000) (hc:c<65536):aA Tryz.prog 193 [.one (.d (kL l)),iv .u32 b,iv .i64 c] (· = FP (l[(b+c)%4294967296]?)):=by
 refine hdP Tryz.func193 rfl [6,7] fun g=>?_
 have e1:=iX (n:=c) a6
 have e2:=BL b c
 have hlt:(b+c)%4294967296<4294967296:=T9 _ a8
 generalize (b+c)%4294967296=at' at e2 hlt ⊢
 have e3:=w64 (n:=at') a6
 have e4:=w64 (n:=l.length) a6
 have h0:(0:Int)≤(at':Int):=a6
 unfold kL
 by_cases h:at'<l.length
 ·obtain⟨x,hx⟩:=getq h
  have hn:¬(l.length:Int)≤(at':Int):=a6
  have hg:(l.map fun x=>[D.int .u32 (x:Nat)])[at']? = some [.int .u32 (x:Nat)]:=by rw[x7,hx];rfl
  rw[hx]
  simp only[go_sem,e1,e2,e3,e4,hn,h0,hg,j4,FP]
 ·have hy:(l.length:Int)≤(at':Int):=a6
  rw[A5 a6]
  simp only[go_sem,e1,e2,e3,e4,hy,j4,FP]
section
def okW (w:Nat):Bool:=okI (w/16777216) (w/1048576%16) (w/65536%16) (w%65536)
def ny (w:Nat):List D:=if okW w=true then [.int .i64 (w/16777216:Nat),.int .i64 (w/1048576%16:Nat),.int .i64 (w/65536%16:Nat),.int .i64 (w%65536:Nat)] else [.int .i64 0,.int .i64 0,.int .i64 0,.int .i64 0]
theorem yE (w:Nat):(ny w).length=4:=by unfold ny;split <;> rfl
theorem CV (w:Nat):∀x∈ny w,ge x=x:=fun x hx=>by
 unfold ny at hx
 split at hx <;> simp only[y2,z7,D6] at hx <;> rcases hx with rfl|rfl|rfl|rfl <;> rfl
def eY (l:List Nat):List C:=l.flatMap fun w=>(ny w).map .d
def uE (l:List Nat):List C:=l.map fun w=>.d (.bool (okW w))
theorem CW (l:List Nat):uE l=l.flatMap fun w=>([D.bool (okW w)]).map .d:=by
 unfold uE
 induction l with
 |nil=>rfl
 |cons a l ih=>simpa using ih
theorem iI:∀l:List Nat,(eY l).length=4*l.length
 |[]=>rfl
 |w::l=>by
   have ih:=iI l
   unfold eY at ih ⊢
   rw[C9,j5,j4,yE,ih];simp only[j6];omega
theorem AA (l:List Nat) (w:Nat):eY (l++[w])=eY l++(ny w).map .d:=by unfold eY;rw[N0];simp
theorem CX (l:List Nat) (w:Nat):uE (l++[w])=uE l++[.d (.bool (okW w))]:=by unfold uE;simp
variable {pre rest:List C}
theorem TH{p:Nat} (h:pre.length=p) (x0 x1 x2 x3 a b c d:C):((((pre++x0::x1::x2::x3::rest).set p a).set (p+1) b).set (p+1+1) c).set (p+1+1+1) d=(pre++[a,b,c,d])++rest:=by
 subst h
 rw[show pre.length+1+1=pre.length+2 from rfl,show pre.length+2+1=pre.length+3 from rfl]
 simp
theorem TJ{p:Nat} (h:pre.length=p) (x0 a:C):(pre++x0::rest).set p a=(pre++[a])++rest:=by
 subst h
 simp
def MQ (w:Nat):AV:=.tup [.agg ((ny w).map .d),iv .i64 (if okW w=true then 0 else 7)]
theorem IV (w:Nat):BM w=MQ w:=by
 unfold BM MQ ny okW okI
 split <;> rfl
theorem MR (code:List Nat) (d:Nat) (hl:code.length≤1000000) (hcw:∀w∈code,w<4294967296):aA Tryz.prog 119 [fP (code,d)] (· = .tup [.one (.d (.sl (code.map ny))),.one (.d (.sl (code.map fun w=>[.bool (okW w)])))]):=by
 refine hdR Tryz.func119 rfl [.tmp 2,.tmp 3] fun g=>?_
 have h0:(0:Int)≤(code.length:Int):=a6
 unfold fP fC
 simp only[go_sem,j4,h0]
 refine⟨j8 _,a6,a6,j8 _,a6,a6,?_⟩
 refine fV (fun n st=>∃k:Nat,n+k=code.length∧st.f 1=.one (.ptr 1 (nxC 36 (g 1)) 0)∧st.gen 1=nxC 36 (g 1)∧st.obj 1=some [.d (.sl (code.map fun n=>[.int .u32 (n:Nat)])),.d (.int .i64 (d:Nat))]∧st.f 6=iv .i64 k∧
  st.f 4=.one (.osl 12 (st.gen 12) 4 0 code.length)∧st.obj 12=some (eY (code.take k)++(List.replicate n [C.d (.int .i64 0),.d (.int .i64 0),.d (.int .i64 0),.d (.int .i64 0)]).flatten)∧
  st.f 5=.one (.osl 16 (st.gen 16) 1 0 code.length)∧st.obj 16=some (uE (code.take k)++(List.replicate n [C.d (.bool false)]).flatten)) code.length ?_ ?_
 ·refine⟨0,rfl,?_⟩
  simp only[go_sem]
  try exact⟨rfl,rfl⟩
 rintro n f g' ob ⟨k,hk,q1,q1g,q1o,q6,q4,q4o,q5,q5o⟩
 simp only at q1 q1g q1o q6 q4 q4o q5 q5o
 have hw:=ae (k:=k) a6
 cases n with
 |zero=>
   obtain rfl:k=code.length:=a6
   have hno:¬(code.length:Int)<(code.length:Int):=a6
   rw[l5 (j8 _)] at q4o q5o
   simp only[J9,List.flatten_nil,l9] at q4o q5o
   simp only[go_sem,q1,q1g,q1o,q6,q4,q5,hno,j4]
   exact⟨_,⟨_,⟨_,_,rfl,wN (dK (cells:=eY code) rfl code ny (by simp[upd,q4o]) rfl (fun a _=>CV a) (fun a _=>yE a) rfl),_,_,rfl,wN (dK (cells:=uE code) rfl code (fun w=>[.bool (okW w)]) (by simp[upd,q5o]) (CW code) (fun a _ x hx=>by simp only[C5] at hx;subst hx;rfl) (fun _ _=>rfl) rfl),rfl⟩,rfl⟩,rfl⟩
 |succ m=>
   have hlt:k<code.length:=a6
   have hlti:(k:Int)<(code.length:Int):=a6
   have hk0:(0:Int)≤(k:Int):=a6
   obtain⟨w,hwk⟩:=getq hlt
   have hg:(code.map fun n=>[D.int .u32 (n:Nat)])[k]? = some [.int .u32 (w:Nat)]:=by rw[x7,hwk];rfl
   have hD:=Ay w (hcw w (l4 hwk))
   rw[IV] at hD
   have htk:code.take (k+1)=code.take k++[w]:=by rw[A8,hwk];rfl
   have htl:(code.take k).length=k:=by rw[D2];omega
   have hpl:(eY (code.take k)).length=k*4:=by rw[iI,htl];omega
   have hol:(uE (code.take k)).length=k:=by unfold uE;rw[j4,htl]
   have hs4:=fun x a b c d=>TH (rest:=(List.replicate m [C.d (.int .i64 0),.d (.int .i64 0),.d (.int .i64 0),.d (.int .i64 0)]).flatten) hpl x x x x a b c d
   have hs1:=TJ (rest:=(List.replicate m [C.d (.bool false)]).flatten) hol (C.d (.bool false))
   rw[D1,E5] at q4o q5o
   have hi1:=AA (code.take k) w
   have ho1:=CX (code.take k) w
   rw[←htk] at hi1 ho1
   generalize eY (code.take k)=A at q4o hpl hs4 hi1
   generalize uE (code.take k)=B at q5o hol hs1 ho1
   unfold MQ ny at hD
   unfold ny at hi1
   simp only[go_sem,q1,q1g,q1o,q6,hlti,hk0,hg,j4]
   cases hR:okW w
   ·rw[hR,if_neg a7] at hD
    rw[hR,if_neg a7] at hi1
    rw[hR] at ho1
    simp only[l6,v7,B8,A4] at hD hi1
    exact Vg
   ·rw[hR,if_pos rfl] at hD
    rw[hR,if_pos rfl] at hi1
    rw[hR] at ho1
    simp only[l6,v7,A9] at hD hi1
    exact Vg
end
end
section
open Go Go.Am Go.Asm Go.Mach
section
structure WC (cs:List C) (code:List Nat) (inp:Str) (m:M) (mc xc cc:C):Prop where
 len:cs.length=28
 c0:cs[0]? = some (.d (.int .i64 (m.pc:Nat)))
 rl:m.reg.length=16
 rg:∀a,a<16→cs[1+a]? = some (.d (.int .u32 (m.r a:Nat)))
 c17:cs[17]? = some (mc)
 c18:cs[18]? = some (.d (.int .i64 (m.rd:Nat)))
 c19:cs[19]? = some (.d (.str []))
 c20:cs[20]? = some (.d (.int .i64 (m.steps:Nat)))
 c21:cs[21]? = some (.d (.int .i64 (m.fin:Nat)))
 c22:cs[22]? = some (xc)
 c23:cs[23]? = some (.d (.sl (code.map ny)))
 c24:cs[24]? = some (.d (.sl (code.map fun w=>[.bool (okW w)])))
 c25:cs[25]? = some (.d (fC code))
 c26:cs[26]? = some (.d (.str inp))
 c27:cs[27]? = some (cc)
section
variable {cs:List C}{code:List Nat}{inp:Str}{m:M}{mc xc cc:C}
theorem WC.setReg (h:WC cs code inp m mc xc cc) {a:Nat} (ha:a<16) (x:Nat):WC (cs.set (1+a) (.d (.int .u32 (x:Nat)))) code inp { m with reg:=m.reg.set a x } mc xc cc:=by
 have hl:=h.len
 refine⟨by simp[h.len],by rw[aw a6];exact h.c0,by simp[h.rl],fun k hk=>?_,by rw[aw a6];exact h.c17,by rw[aw a6];exact h.c18,by rw[aw a6];exact h.c19,by rw[aw a6];exact h.c20,by rw[aw a6];exact h.c21,by rw[aw a6];exact h.c22,by rw[aw a6];exact h.c23,by rw[aw a6];exact h.c24,by rw[aw a6];exact h.c25,by rw[aw a6];exact h.c26,by rw[aw a6];exact h.c27⟩
 rw[Rg h.rl ha]
 by_cases hk':k=a
 ·subst hk';rw[if_pos rfl,kw a6]
 ·rw[if_neg hk',aw a6];exact h.rg k hk
theorem WC.setPc (h:WC cs code inp m mc xc cc) (n:Nat):WC (cs.set 0 (.d (.int .i64 (n:Nat)))) code inp { m with pc:=n } mc xc cc:=
 ⟨by simp[h.len],kw Zi,h.rl,fun k hk=>by rw[aw a6];exact h.rg k hk,by rw[aw a6];exact h.c17,by rw[aw a6];exact h.c18,by rw[aw a6];exact h.c19,by rw[aw a6];exact h.c20,by rw[aw a6];exact h.c21,by rw[aw a6];exact h.c22,by rw[aw a6];exact h.c23,by rw[aw a6];exact h.c24,by rw[aw a6];exact h.c25,by rw[aw a6];exact h.c26,by rw[aw a6];exact h.c27⟩
theorem WC.setSteps (h:WC cs code inp m mc xc cc) (n:Nat):WC (cs.set 20 (.d (.int .i64 (n:Nat)))) code inp { m with steps:=n } mc xc cc:=
 ⟨by simp[h.len],by rw[aw a6];exact h.c0,h.rl,fun k hk=>by rw[aw a6];exact h.rg k hk,by rw[aw a6];exact h.c17,by rw[aw a6];exact h.c18,by rw[aw a6];exact h.c19,kw Zi,by rw[aw a6];exact h.c21,by rw[aw a6];exact h.c22,by rw[aw a6];exact h.c23,by rw[aw a6];exact h.c24,by rw[aw a6];exact h.c25,by rw[aw a6];exact h.c26,by rw[aw a6];exact h.c27⟩
theorem WC.setFin (h:WC cs code inp m mc xc cc) (n:Nat):WC (cs.set 21 (.d (.int .i64 (n:Nat)))) code inp { m with fin:=n } mc xc cc:=
 ⟨by simp[h.len],by rw[aw a6];exact h.c0,h.rl,fun k hk=>by rw[aw a6];exact h.rg k hk,by rw[aw a6];exact h.c17,by rw[aw a6];exact h.c18,by rw[aw a6];exact h.c19,by rw[aw a6];exact h.c20,kw Zi,by rw[aw a6];exact h.c22,by rw[aw a6];exact h.c23,by rw[aw a6];exact h.c24,by rw[aw a6];exact h.c25,by rw[aw a6];exact h.c26,by rw[aw a6];exact h.c27⟩
theorem WC.setOut (h:WC cs code inp m mc xc cc) (c:C) (o:Str):WC (cs.set 22 (c)) code inp { m with out:=o } mc c cc:=
 ⟨by simp[h.len],by rw[aw a6];exact h.c0,h.rl,fun k hk=>by rw[aw a6];exact h.rg k hk,by rw[aw a6];exact h.c17,by rw[aw a6];exact h.c18,by rw[aw a6];exact h.c19,by rw[aw a6];exact h.c20,by rw[aw a6];exact h.c21,kw Zi,by rw[aw a6];exact h.c23,by rw[aw a6];exact h.c24,by rw[aw a6];exact h.c25,by rw[aw a6];exact h.c26,by rw[aw a6];exact h.c27⟩
end
def lA (l:List Int):List C:=l.map fun n=>.d (.int .i64 n)
structure Wn (gr:Nat) (code:List Nat) (inp:Str) (m:M) (g:Nat→Nat) (ob:Obs):Prop where
 gen:g 13=gr
 obj:∃cs mi xc cnt,ob 13=some cs∧WC cs code inp m (.osl mi (g mi) 1 0 m.mem.length) xc (.osl 47 (g 47) 1 0 code.length)∧(mi=24∨mi=27)∧ob mi=some (jg m.mem)∧ob 47=some (lA cnt)∧cnt.length=code.length∧
  (xc=.osl 38 (g 38) 1 0 m.out.length∧ob 38=some (me m.out))
end
end
section
attribute [local congr] Go.Am.ite_cc
open Go Go.Am Go.Asm Go.Mach
section
def FrW (g:Nat→Nat) (ob:Obs) (g':Nat→Nat) (ob':Obs):Prop:=∀i,i<3000→i≠13→i≠24→i≠27→i≠47→i≠38→g' i=g i∧ob' i=ob i
variable {gr:Nat}{code:List Nat}{inp:Str}{g g':Nat→Nat}{ob ob':Obs}
theorem Wn.cells{m m':M} (h:Wn gr code inp m g ob) {cs':List C} (hg:∀i,(i=13∨i=24∨i=27∨i=47∨i=38)→g' i=g i) (ho:∀i,(i=24∨i=27∨i=47∨i=38)→ob' i=ob i)
  (hc:ob' 13=some cs') (hm:m'.mem=m.mem) (hx:m'.out=m.out) (hr:∀cs mc xc cc,ob 13=some cs→WC cs code inp m mc xc cc→WC cs' code inp m' mc xc cc):Wn gr code inp m' g' ob':=by
 obtain⟨h1,cs,mi,xc,cnt,h2,h3,h4,h5,h6,h7,h8⟩:=h
 have hmi:g' mi=g mi∧ob' mi=ob mi:=⟨hg mi a6,ho mi a6⟩
 refine⟨by rw[hg 13 a8];exact h1,cs',mi,xc,cnt,hc,?_,h4,by rw[hmi.2,hm];exact h5,by rw[ho 47 a8];exact h6,h7,by rw[hg 38 a8,ho 38 a8,hx];exact h8⟩
 rw[hmi.1,hm,hg 47 a8]
 exact hr cs _ _ _ h2 h3
theorem Wn.same{m:M} (h:Wn gr code inp m g ob) (hg:∀i,(i=13∨i=24∨i=27∨i=47∨i=38)→g' i=g i) (ho:∀i,(i=13∨i=24∨i=27∨i=47∨i=38)→ob' i=ob i):Wn gr code inp m g' ob':=by
 obtain⟨cs,_,_,_,h2,_⟩:=id h.obj
 exact h.cells (cs':=cs) hg (fun i hi=>ho i a6) (by rw[ho 13 a8];exact h2) rfl rfl fun cs2 _ _ _ e r=>by rw[h2] at e;cases e;exact r
theorem Wn.done{m m':M}{cs cs':List C} (h:Wn gr code inp m g ob) (ho:ob 13=some cs) (hg':∀i,(i<3000∨i=38)→g' i=g i) (ho':∀i,(i≠13∧(i<3000∨i=38))→ob' i=ob i)
  (hc:ob' 13=some cs') (hm:m'.mem=m.mem) (hx:m'.out=m.out) (hr:∀mc xc cc,WC cs code inp m mc xc cc→WC cs' code inp m' mc xc cc):FrW g ob g' ob'∧Wn gr code inp m' g' ob':=
 ⟨fun i hi h13 _ _ _ _=>⟨hg' i (.inl hi),ho' i ⟨h13,.inl hi⟩⟩,h.cells (fun i hi=>hg' i a6) (fun i hi=>ho' i a6) hc hm hx fun cs2 mc xc cc e r=>by rw[ho] at e;cases e;exact hr mc xc cc r⟩
theorem Ri{m:M}{g:Nat→Nat}{ob:Obs} (h:Wn gr code inp m g ob) (a x:Nat) (ha:a<16) (hpc:m.pc≤4294967296000000) :
  iN Tryz.prog 192 [.one (.ptr 13 gr 0),iv .i64 a,iv .u32 x] g ob (fun _ g' ob'=>FrW g ob g' ob'∧Wn gr code inp (m.set a x) g' ob'):=by
 refine hdF 4000 Tryz.func192 rfl [] ?_
 obtain⟨hg,cs,mi,xc,cnt,ho,hr,-⟩:=id h
 have hws:=ae (k:=m.pc) a6
 have hl:=hr.len
 have ha0:(0:Int)≤(a:Int):=a6
 have hset:(cs.set (1+a) (.d (.int .u32 (x:Nat))))[0]? = some (.d (.int .i64 (m.pc:Nat))):=by rw[aw a6];exact hr.c0
 simp only[go_sem,hg,ho,ha0,hset,hws]
 refine⟨a6,a6,?_⟩
 exact⟨by simp only[C7];omega,hY (.inr rfl) (h.done ho (fun i hi=>by (try simp only[upd]);repeat (rw[if_neg (by omega)]);try rfl) (fun i hi=>by (try simp only[upd]);repeat (rw[if_neg (by omega)]);try rfl) (by simp[upd] <;> rfl) rfl rfl fun _ _ _ hr=>(hr.setReg ha x).setPc (m.pc+1))⟩
end
theorem FrW.from {g g':Nat→Nat}{ob ob1 ob':Obs}{P:Prop} (h:FrW g ob1 g' ob'∧P) (hfr:∀i,i≠13→i≠47→ob1 i=ob i):FrW g ob g' ob'∧P:=
 ⟨fun i a b c d e f=>⟨(h.1 i a b c d e f).1,(h.1 i a b c d e f).2.trans (hfr i b e)⟩,h.2⟩
theorem MO {gr:Nat}{code:List Nat}{inp:Str}{m:M}{g:Nat→Nat}{ob:Obs} (h:Wn gr code inp m g ob) (hcw:∀x∈code,x<4294967296) (hfo:∀x∈code,okW x=true∧(x/16777216=1∨x/16777216=16∨x/16777216=17∨x/16777216=24∨x/16777216=26)) (hg9:Mach.Good m) (hml:m.mem.length≤1000000) (hcl:code.length≤1000000) (hst:m.steps<1000000000000) (hrd:m.rd≤1000000000000) (hf:m.fin=0) :
  iN Tryz.prog 120 [.one (.ptr 13 gr 0)] g ob (fun _ g' ob'=>FrW g ob g' ob'∧Wn gr code inp (mA okI code inp m) g' ob'):=by
 refine hdF 3000 Tryz.func120 rfl [] ?_
 obtain⟨hg,cs,mi,xc,cnt,ho,hr,hmi,hmo,hco,hcn,hmore⟩:=id h
 have hl:=hr.len
 have hp0:¬(m.pc:Int)<0:=a6
 have hp00:(0:Int)≤(m.pc:Int):=a6
 have hws:=ae (k:=m.steps) a6
 simp only[go_sem]
 refine bP b9 ?_
 by_cases hlt:m.pc<code.length
 case neg=>
  have hle:(code.length:Int)≤(m.pc:Int):=a6
  rw[show mA okI code inp m = { m with fin:=7 } by unfold mA;rw[A5 a6]]
  simp only[go_sem,hg,ho,hr.c0,hr.c23,hp0,j4,hle]
  exact⟨a6,hY (.inl rfl) (h.done ho (fun i hi=>by (try simp only[upd]);repeat (rw[if_neg (by omega)]);try rfl) (fun i hi=>by (try simp only[upd]);repeat (rw[if_neg (by omega)]);try rfl) (by simp[upd] <;> rfl) rfl rfl fun _ _ _ hr=>hr.setFin 7)⟩
 have hle:¬(code.length:Int)≤(m.pc:Int):=a6
 obtain⟨w,hw⟩:=getq hlt
 have hwlt:=hcw w (l4 hw)
 simp only[go_sem,hg,ho,hr.c0,hr.c23,hr.c20,hp0,j4,hle,hws]
 refine⟨a6,?_⟩
 refine bP b9 ?_
 have hr1:=hr.setSteps (m.steps+1)
 generalize hcs1:cs.set 20 (.d (.int .i64 (m.steps+1:Nat)))=cs1 at hr1 ⊢
 have hl1:=hr1.len
 obtain⟨n0,hn0⟩:=getq (l:=cnt) (k:=m.pc) a6
 have hcg:(lA cnt)[m.pc]? = some (.d (.int .i64 n0)):=by unfold lA;rw[x7,hn0];rfl
 have hcl2:(lA cnt).length=code.length:=by unfold lA;rw[j4,hcn]
 have hc0:=hr1.c0
 have hc27:=hr1.c27
 simp only[go_sem,hg,hc0,hc27,hco,hp00,C2,K8,hcg]
 refine⟨hlt,hlt,a6,?_⟩
 have h1:Wn gr code inp { m with steps:=m.steps+1 } g (upd (upd ob 13 (some cs1)) 47 (some ((lA cnt).set m.pc (.d (.int .i64 (IntKind.i64.wrap (n0+1))))))):=
  ⟨hg,cs1,mi,xc,cnt.set m.pc (IntKind.i64.wrap (n0+1)),by simp[upd],hr1,hmi,by rcases hmi with rfl|rfl <;> simpa[upd] using hmo,by simp[upd,lA,T0],by rw[C7,hcn],by simpa[upd] using hmore⟩
 have hfr:∀i,i≠13→i≠47→(upd (upd ob 13 (some cs1)) 47 (some ((lA cnt).set m.pc (.d (.int .i64 (IntKind.i64.wrap (n0+1))))))) i=ob i:=fun i a b=>by simp only[upd];rw[if_neg b,if_neg a]
 have ho1:(upd (upd ob 13 (some cs1)) 47 (some ((lA cnt).set m.pc (.d (.int .i64 (IntKind.i64.wrap (n0+1))))))) 13=some cs1:=by simp[upd]
 have hmo1:(upd (upd ob 13 (some cs1)) 47 (some ((lA cnt).set m.pc (.d (.int .i64 (IntKind.i64.wrap (n0+1))))))) mi=some (jg m.mem):=by rcases hmi with rfl|rfl <;> simpa[upd] using hmo
 have hmore1:xc=.osl 38 (g 38) 1 0 m.out.length∧(upd (upd ob 13 (some cs1)) 47 (some ((lA cnt).set m.pc (.d (.int .i64 (IntKind.i64.wrap (n0+1))))))) 38=some (me m.out):=by simpa[upd] using hmore
 obtain⟨cnt1,hco1,hcn1⟩:∃cnt1,(upd (upd ob 13 (some cs1)) 47 (some ((lA cnt).set m.pc (.d (.int .i64 (IntKind.i64.wrap (n0+1))))))) 47=some (lA cnt1)∧cnt1.length=code.length:=⟨cnt.set m.pc (IntKind.i64.wrap (n0+1)),by simp[upd,lA,T0],by rw[C7,hcn]⟩
 generalize upd (upd ob 13 (some cs1)) 47 (some ((lA cnt).set m.pc (.d (.int .i64 (IntKind.i64.wrap (n0+1))))))=ob1 at h1 hfr ho1 hmo1 hmore1 hco1 ⊢
 have hg1:Mach.Good { m with steps:=m.steps+1 }:=⟨hg9.len,hg9.reg,hg9.mem,by have:=hg9.pc;show m.pc≤4294967296+(m.steps+1);omega,hg9.out,hg9.fin⟩
 have hs:mA okI code inp m=if okW w=true then doM code inp { m with steps:=m.steps+1 } (w/16777216) (w/1048576%16) (w/65536%16) (w%65536) else { m with steps:=m.steps+1,fin:=6 }:=by
  unfold mA okW;rw[hw]
 rw[hs]
 have hci:ny w=ny w:=rfl
 conv at hci=>rhs;unfold ny
 have hc23:=hr1.c23
 have hc24:=hr1.c24
 clear hcs1 hs hcg hco hcn hn0 hcl2 hr hmore hmo ho
 refine fX aU mixed [3002] [([0],[0],[],false),([56],[0],[],false),([57],[0],[],false),([58],[0],[],false),([0],[0],[],false),([60],[0],[],false),([61],[0],[],false),([62],[0],[],false),([63],[0],[],false),([59,64],[0],[],false),([65],[0],[],false),([],[],[0],false),([2,66],[],[],true)] 1 b9 rfl a8 ?_
 simp only[go_sem]
 cases hR:okW w
 ·rw[(hfo w (l4 hw)).1] at hR
  cases hR
 ·rw[hR,if_pos rfl] at hci
  rw[if_pos rfl]
  obtain⟨p1,p2,p3⟩:=CS (show okI (w/16777216) (w/1048576%16) (w/65536%16) (w%65536)=true from hR)
  have ha:w/1048576%16<16:=a6
  have hb:w/65536%16<16:=a6
  have hc:w%65536<65536:=a6
  have hop:=(hfo w (l4 hw)).2
  generalize w/16777216=op at hci p1 p2 p3 hop ⊢
  generalize w/1048576%16=a at hci p3 ha ⊢
  generalize w/65536%16=b at hci p3 hb ⊢
  generalize w%65536=c at hci p3 hc ⊢
  iterate 9 (apply aG;· (intro fa ga oa K' hK;simp only[go_sem,hg,ho1,hc0,hc23] at hK ⊢;exact hK))
  iterate 2 (apply aG;· (intro fa ga oa K' hK;simp only[go_sem,hp00,hw,y1,hci] at hK ⊢;exact hK))
  (apply cK;· (intro fa ga oa K' hK;simp only[go_sem] at hK ⊢;exact hK))
  apply cN
  intro K' hK'
  simp only[go_sem]
  refine hK' _ ?_
  clear hK' K'
  simp only[go_sem]
  refine bP b9 ?_
  simp only[go_sem,hg,ho1,hc0,hc24,hp00,hw,y1,hR]
  refine bP b9 ?_
  have ra:=hr1.rg a ha
  have ha0:(0:Int)≤(a:Int):=a6
  have rb:=hr1.rg b hb
  have hb0:(0:Int)≤(b:Int):=a6
  have hpc:m.pc≤4294967296000000:=by have:=hg9.pc;omega
  have rlt:=hg9.r a
  have rblt:=hg9.r b
  have hset:=fun g2 ob2 (h2:Wn gr code inp { m with steps:=m.steps+1 } g2 ob2) (x:Nat)=>Ri h2 a x ha hpc
  have hwc:IntKind.u32.wrap ((c:Nat):Int)=((c:Nat):Int):=iX a6
  change cs1[1+a]? = some (.d (.int .u32 (m.r a:Nat))) at ra
  change cs1[1+b]? = some (.d (.int .u32 (m.r b:Nat))) at rb
  have fin:∀{g2:Nat→Nat}{ob2:Obs}{m':M}{g':Nat→Nat}{ob':Obs},(∀i,i<3000→g2 i=g i)→(∀i,i<3000→ob2 i=ob1 i)→FrW g2 ob2 g' ob'→Wn gr code inp m' g' ob'→FrW g ob g' ob'∧Wn gr code inp m' g' ob':=fun e1 e2 f1 f2=>
   FrW.from (ob1:=ob1) ⟨fun i hi h13 h24 h27 h47 h38=>by have:=f1 i hi h13 h24 h27 h47 h38;rw[e1 i hi,e2 i hi] at this;exact this,f2⟩ hfr
  by_cases o1:op=1
  ·subst o1
   rw[show doM code inp { m with steps:=m.steps+1 } 1 a b c=({ m with steps:=m.steps+1 }:M).set a c from rfl]
   simp only[go_sem,hg,ho1,ra,ha0,hwc]
   refine⟨a6,?_⟩
   refine ez rfl (by simp only[go_sem];exact hset _ _ (h1.same (fun i hi=>by (try simp only[upd]);repeat (rw[if_neg (by omega)]);try rfl) (fun i hi=>by (try simp only[upd]);repeat (rw[if_neg (by omega)]);try rfl)) c) ?_
   exact VK
  by_cases o26:op=26
  ·subst o26
   rw[show doM code inp { m with steps:=m.steps+1 } 26 a b c = { m with steps:=m.steps+1,fin:=1 } from rfl]
   simp only[go_sem,hg,ho1,ra,ha0]
   exact⟨a6,a6,hY (.inr rfl) (FrW.from (h1.done (m':={ m with steps:=m.steps+1,fin:=1 }) ho1 (fun i hi=>by (try simp only[upd]);repeat (rw[if_neg (by omega)]);try rfl) (fun i hi=>by (try simp only[upd]);repeat (rw[if_neg (by omega)]);try rfl) (by simp[upd] <;> rfl) rfl rfl fun _ _ _ hr=>hr.setFin 1) hfr)⟩
  by_cases o16:op=16
  ·subst o16
   have hc17:=hr1.c17
   have hF:=IU m.mem (m.r b) c hml hc
   have hmi2:mi≠13∧mi≠3002:=a6
   simp only[go_sem,hg,ho1,ra,ha0]
   refine⟨a6,?_⟩
   simp only[go_sem,hg,ho1,hc17]
   refine jn aU mixed b9 ?_
   simp only[go_sem,hg,ho1,rb,hb0]
   refine⟨a6,?_⟩
   have hfz:∀{s:St} (x y:D),s.gen mi=g mi→s.obj mi=some (jg m.mem)→dY s [.one (.osl mi (g mi) 1 0 m.mem.length),.one (.d x),.one (.d y)] [.one (.d (kL m.mem)),.one (.d (ge x)),.one (.d (ge y))]:=fun x y e1 e2=>
    MT (wN (rT (cells:=jg m.mem) (off:=0) e1 e2 m.mem (fun n=>.int .u32 (n:Nat)) (fun _=>rfl) rfl (fun j a h=>by rw[C2];unfold jg;rw[x7,h];rfl) (by unfold jg;rw[j4];omega))) (dv _) (dv _)
   have e1:∀(x:Nat),(upd g 3002 x) mi=g mi:=fun x=>by simp only[upd];rw[if_neg hmi2.2]
   cases hx:m.mem[(m.r b+c)%4294967296]? with
   |none=>
     rw[hx] at hF
     unfold FP at hF
     rw[show doM code inp { m with steps:=m.steps+1 } 16 a b c = { m with steps:=m.steps+1,fin:=8 } by show (match m.mem[(m.r b+c)%4294967296]? with|some x=>_|none=>_)=_;rw[hx]]
     refine dF rfl hF YE rfl ?_
     simp only[go_sem,hg,ho1]
     exact⟨a6,hY (.inl rfl) (FrW.from (h1.done (m':={ m with steps:=m.steps+1,fin:=8 }) ho1 (fun i hi=>by (try simp only[upd]);repeat (rw[if_neg (by omega)]);try rfl) (fun i hi=>by (try simp only[upd]);repeat (rw[if_neg (by omega)]);try rfl) (by simp[upd] <;> rfl) rfl rfl fun _ _ _ hr=>hr.setFin 8) hfr)⟩
   |some x=>
     rw[hx] at hF
     unfold FP at hF
     rw[show doM code inp { m with steps:=m.steps+1 } 16 a b c=({ m with steps:=m.steps+1 }:M).set a x by show (match m.mem[(m.r b+c)%4294967296]? with|some x=>_|none=>_)=_;rw[hx]]
     refine dF rfl hF YE rfl ?_
     simp only[go_sem,hg,ho1]
     refine ez rfl (by simp only[go_sem];exact hset _ _ (h1.same (fun i hi=>by (try simp only[upd]);repeat (rw[if_neg (by omega)]);try rfl) (fun i hi=>by (try simp only[upd]);repeat (rw[if_neg (by omega)]);try rfl)) x) ?_
     exact VK
  have hwpc:=ae (k:=m.pc) a6
  by_cases o17:op=17
  ·subst o17
   have hc17:=hr1.c17
   have hmi2:mi≠13∧mi≠3002∧mi≠47∧mi≠38:=a6
   have e2:=BL (m.r b) c
   have hat:(m.r b+c)%4294967296<4294967296:=T9 _ a8
   rw[show doM code inp { m with steps:=m.steps+1 } 17 a b c=(if (m.r b+c)%4294967296<m.mem.length then({ m with steps:=m.steps+1,mem:=m.mem.set ((m.r b+c)%4294967296) (m.r a),pc:=m.pc+1 }:M) else { m with steps:=m.steps+1,fin:=8 }) from rfl]
   generalize (m.r b+c)%4294967296=at' at e2 hat ⊢
   have e3:=w64 (n:=at') a6
   have e4:=w64 (n:=m.mem.length) a6
   have hat0:(0:Int)≤(at':Int):=a6
   simp only[go_sem,hg,ho1,ra,ha0]
   refine⟨a6,?_⟩
   refine bP b9 ?_
   by_cases hz:at'<m.mem.length
   ·have hzi:¬(m.mem.length:Int)≤(at':Int):=a6
    have hwl:(jg m.mem).length=m.mem.length:=by unfold jg;rw[j4]
    rw[if_pos hz]
    simp only[go_sem,hg,ho1,rb,hb0,hwc,e2,hc17,e3,e4,hzi,hat0,hmo1,hmi2.2.1,z8 hmi2.1,C2,K8,hc0,hwpc]
    refine⟨a6,hz,a6,?_⟩
    refine⟨a6,hY (.inr rfl) (FrW.from (ob1:=ob1) ⟨fun i hi h13 h24 h27 h47 h38=>⟨(fun i hi=>by (try simp only[upd]);repeat (rw[if_neg (by omega)]);try rfl) i hi,by simp only[upd];(repeat rw[if_neg (by omega)])⟩,⟨by simp[upd,hg],cs1.set 0 (.d (.int .i64 (m.pc+1:Nat))),mi,xc,cnt1,by simp[upd],?_,hmi,?_,?_,hcn1,?_⟩⟩ hfr)⟩
    ·have hp:=hr1.setPc (m.pc+1)
     simp only[upd,C7]
     (repeat rw[if_neg (by omega)])
     exact⟨hp.len,hp.c0,hp.rl,hp.rg,hp.c17,hp.c18,hp.c19,hp.c20,hp.c21,hp.c22,hp.c23,hp.c24,hp.c25,hp.c26,hp.c27⟩
    ·simp only[upd];(repeat rw[if_neg (by omega)]);simp[jg,T0]
    ·simp only[upd];(repeat rw[if_neg (by omega)]);exact hco1
    ·simp only[upd];(repeat rw[if_neg (by omega)]);exact hmore1
   ·have hzi:(m.mem.length:Int)≤(at':Int):=a6
    rw[if_neg hz]
    simp only[go_sem,hg,ho1,rb,hb0,hwc,e2,hc17,e3,e4,hzi,hmi2.2.1,hmo1]
    exact⟨a6,a6,hY (.inl rfl) (FrW.from (h1.done (m':={ m with steps:=m.steps+1,fin:=8 }) ho1 (fun i hi=>by (try simp only[upd]);repeat (rw[if_neg (by omega)]);try rfl) (fun i hi=>by (try simp only[upd]);repeat (rw[if_neg (by omega)]);try rfl) (by simp[upd] <;> rfl) rfl rfl fun _ _ _ hr=>hr.setFin 8) hfr)⟩
  by_cases o24:op=24
  ·subst o24
   have hc22:=hr1.c22
   have hol:=hg9.out
   rw[show doM code inp { m with steps:=m.steps+1 } 24 a b c=(if 65536≤m.out.length then({ m with steps:=m.steps+1,fin:=4 }:M) else { m with steps:=m.steps+1,out:=m.out++[UInt8.ofNat (m.r a)],pc:=m.pc+1 }) from rfl]
   have e1:((m.r a:Nat):Int).tmod 256=((m.r a%256:Nat):Int):=rfl
   have e2:IntKind.u32.wrap ((m.r a%256:Nat):Int)=((m.r a%256:Nat):Int):=iX a6
   have e3:IntKind.u8.wrap ((m.r a%256:Nat):Int)=((m.r a%256:Nat):Int):=by rw[IntKind.wrap_u8];omega
   have hb8:(UInt8.ofNat (m.r a)).toNat=m.r a%256:=by rw[N5]
   obtain⟨rfl,x3⟩:=hmore1
   have hbl:(me m.out).length=m.out.length:=by unfold me;rw[j4]
   by_cases hfull:65536≤m.out.length
   ·have hfi:(65536:Int)≤(m.out.length:Int):=a6
    rw[if_pos hfull]
    simp only[go_sem,hg,ho1,ra,ha0,hc22,x3,hfi]
    exact⟨a6,a6,hY (.inl rfl) (FrW.from (h1.done (m':={ m with steps:=m.steps+1,fin:=4 }) ho1 (fun i hi=>by (try simp only[upd]);repeat (rw[if_neg (by omega)]);try rfl) (fun i hi=>by (try simp only[upd]);repeat (rw[if_neg (by omega)]);try rfl) (by simp[upd] <;> rfl) rfl rfl fun _ _ _ hr=>hr.setFin 4) hfr)⟩
   ·have hfi:¬(65536:Int)≤(m.out.length:Int):=a6
    rw[if_neg hfull]
    have h220:∀x,(cs1.set 22 x)[0]? = some (.d (.int .i64 (m.pc:Nat))):=fun x=>by rw[aw a6];exact hc0
    simp only[go_sem,hg,ho1,ra,ha0,hc22,x3,hfi,e1,e2,e3,aD,h220,hwpc]
    have hmi2:mi≠13∧mi≠3002∧mi≠47∧mi≠38:=a6
    refine⟨a6,a6,⟨a8,a6⟩,a6,by simp only[C7];omega,hY (.inr rfl) (FrW.from (ob1:=ob1) ⟨fun i hi h13 h24 h27 h47 h38=>⟨by simp only[upd];(repeat rw[if_neg (by omega)]),by simp only[upd];(repeat rw[if_neg (by omega)])⟩,⟨by simp[upd,hg],(cs1.set 22 (.osl 38 (nxC (apC 5 (g 38) 0) (g 38)) 1 0 (m.out.length+1))).set 0 (.d (.int .i64 (m.pc+1:Nat))),mi,(.osl 38 (nxC (apC 5 (g 38) 0) (g 38)) 1 0 (m.out.length+1)),cnt1,by simp[upd],?_,hmi,?_,?_,hcn1,?_,?_⟩⟩ hfr)⟩
    ·have hp:=(hr1.setOut (.osl 38 (nxC (apC 5 (g 38) 0) (g 38)) 1 0 (m.out.length+1)) (m.out++[UInt8.ofNat (m.r a)])).setPc (m.pc+1)
     simp only[upd]
     (repeat rw[if_neg (by omega)])
     exact hp
    ·simp only[upd];(repeat rw[if_neg (by omega)]);exact hmo1
    ·simp only[upd];(repeat rw[if_neg (by omega)]);exact hco1
    ·simp[upd]
    ·simp only[upd,A9]
     rw[if_neg a8]
     simp[me,hb8]
     exact l5 a7
  exfalso
  omega
def TG (l:List Int):D:=.sl (l.map fun n=>[.int .i64 n])
theorem WC.state {cs cs':List C}{code:List Nat}{inp:Str}{m:M}{mc xc cc:C} (h:WC cs code inp m mc xc cc) (hl:cs'.length=28) (he:∀i,i<22→i≠19→cs'[i]? = cs[i]?) {o:Str} (ho:cs'[19]? = some (.d (.str o))):cs'.take 22=stC { m with out:=o } mc:=by
 have hS:=BN (m:={ m with out:=o }) h.rl mc
 refine L8 fun i=>?_
 rw[G5]
 by_cases hi:i<22
 ·rw[if_pos hi]
  unfold stC
  by_cases h0:i=0
  ·subst h0;exact(he 0 a6 a6).trans h.c0
  by_cases h1:i≤16
  ·obtain⟨a,rfl⟩:∃a,i=a+1:=⟨i-1,a6⟩
   rw[he (a+1) a6 a6,show a+1=1+a by omega,h.rg a a6]
   rw[show 1+a=a+1 by omega,G6 (by simp[h.rl];omega),l6,s5,Q5,x7]
   have:a<m.reg.length:=by rw[h.rl];omega
   rw[w8 this]
   unfold M.r
   rw[C4,w8 this]
   rfl
  ·obtain⟨k,rfl⟩:∃k,i=17+k:=⟨i-17,a6⟩
   rw[F6 (by simp[h.rl])]
   simp only[j4,j6,h.rl]
   rw[show 17+k-(16+1)=k by omega]
   obtain rfl|rfl|rfl|rfl|rfl:k=0∨k=1∨k=2∨k=3∨k=4:=a6
   ·exact(he 17 a6 a6).trans h.c17
   ·exact(he 18 a6 a6).trans h.c18
   ·exact ho
   ·exact(he 20 a6 a6).trans h.c20
   ·exact(he 21 a6 a6).trans h.c21
 ·rw[if_neg hi,A5 a6]
theorem Ax (l:List Nat):List.map C.d (l.map fun x=>[D.int .u32 (x:Nat)]).flatten=jg l:=by
 unfold jg
 induction l with
 |nil=>rfl
 |cons a l ih=>simp only[l6,E5,A0,y8,ih]
theorem FM (n:Nat):(List.replicate n [C.d (.int .i64 0)]).flatten=lA (List.replicate n 0):=by
 unfold lA
 induction n with
 |zero=>rfl
 |succ n ih=>simp only[D1,E5,l6,A0,y8,ih]
theorem MP (code:List Nat) (d:Nat) (inp:Str) (fuel:Nat) (hl:code.length≤1000000) (hcw:∀x∈code,x<4294967296) (hfo:∀x∈code,okW x=true∧(x/16777216=1∨x/16777216=16∨x/16777216=17∨x/16777216=24∨x/16777216=26)) (hd:d≤32768) (hfu:fuel≤500000000000) :
  aA Tryz.prog 71 [fP (code,d),sv inp,stV (Mach.start d),iv .i64 fuel] (fun r=>∃cnt:List Int,r=.tup [stV (runM okI code inp fuel (Mach.start d)),.one (.d (TG cnt))]):=by
 refine hdR Tryz.func71 rfl [.cell 8 95,.tmp 9] fun g=>?_
 have hC:=MR code d hl hcw
 have hSl:stV (Mach.start d)=.agg [.d (.int .i64 0),.d (.int .u32 0),.d (.int .u32 0),.d (.int .u32 0),.d (.int .u32 0),.d (.int .u32 0),.d (.int .u32 0),.d (.int .u32 0),.d (.int .u32 0),.d (.int .u32 0),.d (.int .u32 0),.d (.int .u32 0),.d (.int .u32 0),.d (.int .u32 0),.d (.int .u32 0),.d (.int .u32 0),.d (.int .u32 0),.d (kL (List.replicate d 0)),.d (.int .i64 0),.d (.str []),.d (.int .i64 0),.d (.int .i64 0)]:=rfl
 rw[hSl]
 have hWf:=Ax (List.replicate d 0)
 have hW1:∀e∈((List.replicate d 0).map fun x=>[D.int .u32 ((x:Nat):Int)]),e.length=1:=fun e he=>by obtain⟨x,_,rfl⟩:=F9.1 he;rfl
 have hWl:((List.replicate d 0).map fun x=>[D.int .u32 ((x:Nat):Int)]).length=d:=a7
 have hmem:(Mach.start d).mem=List.replicate d 0:=rfl
 have hml:(List.replicate d 0).length=d:=G9
 unfold kL
 generalize ((List.replicate d 0).map fun x=>[D.int .u32 ((x:Nat):Int)])=W at hWf hW1 hWl ⊢
 have hc0:(0:Int)≤(code.length:Int):=a6
 unfold fP at hC ⊢
 simp only at hC ⊢
 generalize hI:code.map ny=I at hC
 generalize hO:(code.map fun w=>[D.bool (okW w)])=O at hC
 unfold fC at hC ⊢
 simp only[go_sem]
 refine cP rfl Yw ?_
 rintro _ rfl
 simp only[go_sem]
 refine fX aU mixed [24,12] [([6],[0,1],[],false),([20],[0,1],[],false),([6],[0,1],[],false),([22],[0,1],[],false),([],[1],[0],false),([6],[0,1],[],false),([25],[0,1],[],false),([24,26],[1],[0],false),([6],[0,1],[],false),([28],[0,1],[],false),([6],[0,1],[],false),([30],[0,1],[],false),([6],[0,1],[],false),([32],[0,1],[],false),([21,23,27,29,31,33],[1],[],false),([],[0],[1],false),([12,34],[],[],true)] 2 b9 rfl a8 ?_
 simp only[go_sem]
 iterate 4 (apply aG;· (intro fa ga oa K' hK;simp only[go_sem] at hK ⊢;exact hK))
 (apply cK;· (intro fa ga oa K' hK;simp only[go_sem,aD] at hK ⊢;exact hK))
 iterate 2 (apply aG;· (intro fa ga oa K' hK;simp only[go_sem] at hK ⊢;exact hK))
 (apply cK;· (intro fa ga oa K' hK;simp only[go_sem,aD] at hK ⊢;exact⟨hW1,⟨a8,a6⟩,hK⟩))
 iterate 7 (apply aG;· (intro fa ga oa K' hK;simp only[go_sem] at hK ⊢;exact hK))
 (apply cK;· (intro fa ga oa K' hK;simp only[go_sem] at hK ⊢;exact hK))
 apply cN
 intro K' hK'
 simp only[go_sem]
 refine hK' _ ?_
 clear hK' K'
 simp only[go_sem]
 refine fX aU mixed [38,47,13] [([12],[0,1,2],[],false),([6],[1,2],[],false),([36],[1,2],[],false),([37],[1,2],[0],false),([10],[0,1,2],[],false),([11],[0,1,2],[],false),([4],[0,1,2],[],false),([41],[0,1,2],[],false),([1],[0,1,2],[],false),([4],[0,2],[],false),([44],[0,2],[],false),([45],[0,2],[],false),([46],[0,2],[1],false),([35,38,39,40,42,43,47],[2],[],false),([],[0,1],[2],false),([13,48],[],[],true)] 3 b9 rfl a8 ?_
 simp only[go_sem]
 iterate 3 (apply aG;· (intro fa ga oa K' hK;simp only[go_sem] at hK ⊢;exact hK))
 (apply cK;· (intro fa ga oa K' hK;simp only[go_sem,aD] at hK ⊢;exact hK))
 iterate 8 (apply aG;· (intro fa ga oa K' hK;simp only[go_sem,j4] at hK ⊢;exact hK))
 (apply cK;· (intro fa ga oa K' hK;simp only[go_sem,hc0] at hK ⊢;exact⟨j8 _,a6,a6,hK⟩))
 (apply aG;· (intro fa ga oa K' hK;simp only[go_sem] at hK ⊢;exact hK))
 (apply cK;· (intro fa ga oa K' hK;simp only[go_sem] at hK ⊢;exact hK))
 apply cN
 intro K' hK'
 simp only[go_sem]
 refine hK' _ ?_
 clear hK' K'
 simp only[go_sem]
 refine fV (fun n st=>∃(k:Nat) (m:M),n+k=fuel∧runM okI code inp fuel (Mach.start d)=runM okI code inp n m∧Mach.Good m∧m.mem.length=d∧m.steps≤k∧m.rd≤k∧Wn (nxC 201 (g 13)) code inp m st.gen st.obj∧st.f 3=iv .i64 fuel∧st.f 14=iv .i64 k∧st.f 13=.one (.ptr 13 (nxC 201 (g 13)) 0)∧st.f 8=.one (.ptr 8 (nxC 96 (g 8)) 0)∧st.gen 8=nxC 96 (g 8)∧∃Z,st.obj 8=some Z∧Z.length=22) fuel ?_ ?_
 ·refine⟨0,Mach.start d,rfl,rfl,pj d,hml,K9 _,K9 _,⟨?_,_,24,_,List.replicate code.length 0,by simp only[upd,A9] <;> rfl,⟨rfl,rfl,rfl,fun a ha=>?_,?_,rfl,rfl,rfl,rfl,rfl,?_,?_,rfl,rfl,?_⟩,.inl rfl,?_,?_,G9,?_,?_⟩,?_⟩
  ·simp only[upd,A9]
  ·obtain rfl|rfl|rfl|rfl|rfl|rfl|rfl|rfl|rfl|rfl|rfl|rfl|rfl|rfl|rfl|rfl:a=0∨a=1∨a=2∨a=3∨a=4∨a=5∨a=6∨a=7∨a=8∨a=9∨a=10∨a=11∨a=12∨a=13∨a=14∨a=15:=a6
   all_goals rfl
  ·rw[show (Mach.start d).mem.length=W.length by rw[hmem,hml,hWl]];rfl
  ·rw[hI];rfl
  ·rw[hO];rfl
  ·rfl
  ·rw[hmem,←hWf];rfl
  ·rw[←FM];rfl
  ·rfl
  ·rfl
  ·simp only[go_sem]
   exact⟨_,rfl,rfl⟩
 rintro n f g' ob ⟨k,m,hn,hrun,hg9,hmm,hst,hrd,hW,q3,q14,q13,q8,g8,Z,o8,hZ⟩
 simp only at hW q3 q14 q13 q8 g8 o8
 obtain⟨hg13,cs,mi,xc,cnt,ho,hr,hmi,hmo,hco,hcn,rfl,hxo⟩:=id hW
 have hws:=ae (k:=k) a6
 by_cases hgo:k<fuel∧m.fin=0
 ·obtain⟨hlt,hf⟩:=hgo
  have hlti:(k:Int)<(fuel:Int):=a6
  have hfi:(m.fin:Int)=0:=a6
  simp only[go_sem,q3,q14,q13,hlti,hg13,ho,hr.c21,hfi]
  refine ez rfl (by simp only[go_sem,q13];exact MO hW hcw hfo hg9 a6 hl a6 a6 hf) ?_
  rintro r g2 ob2 ⟨f1,f2⟩
  obtain⟨n1,n2,n3⟩:=Db (okI:=okI) (code:=code) (inp:=inp) m
  simp only[go_sem,q14,hws]
  refine fE (n-1) a6 ⟨k+1,mA okI code inp m,a6,?_,vv hg9 hcw,a6,a6,a6,f2,?_⟩
  ·rw[hrun,show n=(n-1)+1 by omega,Da hf];rfl
  simp only[go_sem,q3,q13,q8]
  have h8:=f1 8 a8 a8 a8 a8 a8 a8
  exact⟨h8.1.trans g8,Z,h8.2.trans o8,hZ⟩
 ·have hend:runM okI code inp fuel (Mach.start d)=m:=by
   rw[hrun]
   by_cases hf:m.fin=0
   ·rw[show n=0 by omega];rfl
   ·exact FW hf n
  rw[hend]
  have hfin:(¬(k:Int)<(fuel:Int))∨((k:Int)<(fuel:Int)∧¬(m.fin:Int)=0):=a6
  have hu:u8s (List.take m.out.length (me m.out))=some (m.out.map fun b=>((b.toNat:Nat):Int)):=by rw[l5 (by simp[me])];exact qC _
  have hcl:=hr.len
  have hbl:(me m.out).length=m.out.length:=by simp[me]
  have hb:(List.map (fun n:Int=>UInt8.ofNat n.toNat) (List.map (fun b:UInt8=>((b.toNat:Nat):Int)) m.out))=m.out:=by
   rw[Q5]
   conv=>rhs;rw[←List.map_id m.out]
   exact List.map_congr_left fun b _=>by simp
  have hL:=hr.state (cs':=cs.set 19 (C.d (D.str m.out))) (o:=m.out) (by rw[C7];exact hcl) (fun i hi h19=>aw a6) (kw a6)
  have hc27:(cs.set 19 (C.d (D.str m.out)))[27]? = some (.osl 47 (g' 47) 1 0 code.length):=(aw a6).trans hr.c27
  have hSL:=BN (m:={ m with out:=m.out }) hr.rl (.osl mi (g' mi) 1 0 m.mem.length)
  have hT:(stC { m with out:=m.out } (.osl mi (g' mi) 1 0 m.mem.length)).take 22=stC { m with out:=m.out } (.osl mi (g' mi) 1 0 m.mem.length):=l5 a6
  rcases hfin with hlti|⟨hlti,hfi⟩
  case' inl=>simp only[go_sem,q3,q14,q13,hlti,hg13,ho,hr.c22,hxo,K8,B3,hu,hb]
  case' inr=>simp only[go_sem,q3,q14,q13,hlti,hg13,ho,hr.c21,hfi,hr.c22,hxo,K8,B3,hu,hb]
  all_goals
   refine⟨a6,a6,?_⟩
   refine fX aU mixed [8] [([13],[],[],false),([66],[],[],false),([13],[0],[],false),([68],[0],[],false),([8,67],[],[0],false),([69],[],[],true)] 1 b9 rfl a8 ?_
   simp only[go_sem]
   (apply aG;· (intro fa ga oa K' hK;simp only[go_sem,q13,hg13] at hK ⊢;exact hK))
   (apply aG;· (intro fa ga oa K' hK;simp only[go_sem,hg13,B3,hL] at hK ⊢;exact⟨by rw[C7];omega,hK⟩))
   (apply aG;· (intro fa ga oa K' hK;simp only[go_sem,q13,hg13] at hK ⊢;exact hK))
   (apply aG;· (intro fa ga oa K' hK;simp only[go_sem,hg13,hc27] at hK ⊢;exact hK))
   (apply jo;(focus simp);(focus (intro fa ga oa K' hK;simp only[go_sem,q8,g8,o8,hSL] at hK ⊢;exact⟨a6,hK⟩)))
   apply cN
   intro K' hK'
   simp only[go_sem]
   refine hK' _ ?_
   clear hK' K'
   rw[nS (by rw[hSL];exact hZ)]
   simp only[go_sem,q8,g8,hT,hSL]
   refine⟨_,⟨_,⟨_,_,rfl,nQ (m:=m) ?_ rfl,_,_,rfl,wN ?_,rfl⟩,rfl⟩,cnt,rfl⟩
   ·refine tu rfl ?_ rfl
    rcases hmi with rfl|rfl <;> (simp only[upd];(repeat rw[if_neg (by decide)]);exact hmo)
   ·refine rT (cells:=lA cnt) (off:=0) rfl ?_ cnt (fun n=>.int .i64 n) (fun _=>rfl) hcn (fun j a h=>by rw[C2];unfold lA;rw[x7,h];rfl) (by unfold lA;rw[j4];omega)
    simp only[upd];(repeat rw[if_neg (by decide)]);exact hco
theorem Rj (code:List Nat) (d:Nat) (inp:Str) (fuel:Nat) (hl:code.length≤1000000) (hcw:∀x∈code,x<4294967296) (hfo:∀x∈code,okW x=true∧(x/16777216=1∨x/16777216=16∨x/16777216=17∨x/16777216=24∨x/16777216=26)) (hd:d≤32768) (hfu:fuel≤500000000000) :
  aA Tryz.prog 38 [fP (code,d),sv inp,stV (Mach.start d),iv .i64 fuel] (· = stV (runM okI code inp fuel (Mach.start d))):=by
 refine hdR Tryz.func38 rfl [.cell 8 95] fun g=>?_
 have h2:=MP code d inp fuel hl hcw hfo hd hfu
 have hgood:=tV (okI:=okI) (inp:=inp) hcw (n:=fuel) (pj d)
 generalize runM okI code inp fuel (Mach.start d)=M at h2 hgood ⊢
 unfold fP at h2 ⊢
 have hSl:stV (Mach.start d)=.agg ((stD (Mach.start d)).map .d):=rfl
 have hT22:List.take 22 (List.map C.d (stD (Mach.start d)))=List.map C.d (stD (Mach.start d)):=l5 (by simp[stD,Mach.start])
 rw[hSl] at h2 ⊢
 have hl22:((stD M).map C.d).length=22:=by simp[stD,hgood.len]
 have hT:((stD M).map C.d).take 22=(stD M).map C.d:=l5 a6
 simp only[go_sem,hT22]
 refine⟨by simp[stD,Mach.start],?_⟩
 refine eN rfl (by simp only[go_sem,hT22];exact h2) (by simp only[go_sem,hT22];rfl) ?_
 rintro _ ⟨cnt,rfl⟩
 unfold stV
 simp only[go_sem,hl22]
 rw[nS (by rw[hl22];rfl)]
 refine⟨a6,?_⟩
 simp only[go_sem,hT,hl22]
 rw[nS (by rw[hl22];rfl)]
 refine⟨a6,?_⟩
 rw[hT]
 exact⟨_,nQ (m:=M) (mc:=.d (kL M.mem)) (.d _) (by unfold stD;rw[A3];rfl),rfl⟩
theorem IR (code:List Nat) (d:Nat) (inp:Str) (fuel:Nat) (hl:code.length≤1000000) (hcw:∀x∈code,x<4294967296) (hfo:∀x∈code,okW x=true∧(x/16777216=1∨x/16777216=16∨x/16777216=17∨x/16777216=24∨x/16777216=26)) (hd:d≤32768) (hfu:fuel≤500000000000) :
  aA Tryz.prog 13 [fP (code,d),sv inp,iv .i64 fuel] (· = MN (MU okI code d inp fuel)):=by
 refine hdR Tryz.func13 rfl [.cell 6 46] fun g=>?_
 have h1:=FO code d hd
 have h2:=Rj code d inp fuel hl hcw hfo hd hfu
 have hgood:=tV (okI:=okI) (inp:=inp) hcw (n:=fuel) (pj d)
 unfold MU
 generalize runM okI code inp fuel (Mach.start d)=M at h2 hgood ⊢
 unfold fP at h1 h2 ⊢
 have hl22:((stD M).map C.d).length=22:=by simp[stD,hgood.len]
 have hg:∀k,k<5→((stD M).map C.d)[17+k]? = ([.d (kL M.mem),.d (.int .i64 (M.rd:Nat)),.d (.str M.out),.d (.int .i64 (M.steps:Nat)),.d (.int .i64 (M.fin:Nat))]:List C)[k]?:=fun k hk=>by
  have hA:(stD M).map C.d=((.int .i64 (M.pc:Nat)::M.reg.map fun x=>D.int .u32 (x:Nat)):List D).map C.d++[.d (kL M.mem),.d (.int .i64 (M.rd:Nat)),.d (.str M.out),.d (.int .i64 (M.steps:Nat)),.d (.int .i64 (M.fin:Nat))]:=by
   unfold stD
   rw[A3]
   rfl
  rw[hA,F6 (by simp[hgood.len])]
  simp only[j4,j6,hgood.len]
  rw[show 17+k-(16+1)=k by omega]
 have g19:((stD M).map C.d)[19]? = some (.d (.str M.out)):=hg 2 a8
 have g20:((stD M).map C.d)[20]? = some (.d (.int .i64 (M.steps:Nat))):=hg 3 a8
 have g21:((stD M).map C.d)[21]? = some (.d (.int .i64 (M.fin:Nat))):=hg 4 a8
 clear hg
 unfold stV at h2
 generalize (stD M).map C.d=L at h2 hl22 g19 g20 g21
 have hT:L.take 22=L:=l5 a6
 have hSt:stV (Mach.start d)=.agg ((stD (Mach.start d)).map .d):=rfl
 rw[hSt] at h1
 simp only[go_sem]
 refine fX aU mixed [7] [([3],[0],[],false),([1],[0],[],false),([3],[0],[],false),([10],[0],[],false),([2],[0],[],false),([8,9,11,12],[0],[],false),([],[],[0],false),([7,13],[],[],true)] 1 b9 rfl a8 ?_
 simp only[go_sem]
 iterate 3 (apply aG;· (intro fa ga oa K' hK;simp only[go_sem] at hK ⊢;exact hK))
 refine aG (v:=.agg ((stD (Mach.start d)).map .d)) (fun fa ga oa K' hK=>?_) ?_
 ·simp only[go_sem] at hK ⊢
  refine eN (k:=bx K') rfl (by simp only[go_sem];exact h1) XM ?_
  exact Wx
 (apply aG;· (intro fa ga oa K' hK;simp only[go_sem] at hK ⊢;exact hK))
 refine aG (v:=.agg L) (fun fa ga oa K' hK=>?_) ?_
 ·simp only[go_sem] at hK ⊢
  refine eN (k:=bx K') rfl (by simp only[go_sem];exact h2) XM ?_
  exact Wx
 (apply cK;· (intro fa ga oa K' hK;simp only[go_sem] at hK ⊢;exact hK))
 apply cN
 intro K' hK'
 simp only[go_sem,hl22]
 refine hK' _ ?_
 clear hK' K'
 rw[nS (by rw[hl22];rfl)]
 have hl22':=hl22
 by_cases h0:M.fin=0
 ·have h0i:(M.fin:Int)=0:=a6
  rw[if_pos h0]
  have s21:(L.set 21 (C.d (D.int .i64 5)))[21]? = some (C.d (D.int .i64 5)):=kw a6
  have s20:(L.set 21 (C.d (D.int .i64 5)))[20]? = some (.d (.int .i64 (M.steps:Nat))):=by rw[aw a8];exact g20
  have s19:(L.set 21 (C.d (D.int .i64 5)))[19]? = some (.d (.str M.out)):=by rw[aw a8];exact g19
  simp only[go_sem,g21,h0i,s21,s20,s19]
  exact⟨a6,_,FG,rfl⟩
 ·have h0i:¬(M.fin:Int)=0:=a6
  rw[if_neg h0]
  simp only[go_sem,g19,g20,g21,h0i]
  exact⟨_,FG,rfl⟩
end
end Go.Proofs.YthnomjfdcidgbaaGreatDoor
namespace Go.Proofs.YthnomjfdcidgbaaGreatDoor.Low
section
attribute [local congr] Go.Am.ite_cc
open Go Go.Am Go.Asm Go.Mach
def qK (t:Nat) (code:List Nat) (d:Nat):Nat:=8*(t+1)*(code.length+d+1)
theorem F_A (t:Nat) (code:List Nat) (d:Nat) (ht:t≤1000) (hl:code.length≤1000000) (hd:d≤32768):aA Tryz.prog 14 [iv .i64 t,fP (code,d)] (· = iv .i64 (qK t code d:Nat)):=by
 refine hdP Tryz.func14 rfl [4] fun g=>?_
 have h1:IntKind.i64.wrap ((t:Int)+1)=((t+1:Nat):Int):=by rw[wrap_i64] <;> omega
 have h2:IntKind.i64.wrap (8*((t+1:Nat):Int))=((8*(t+1):Nat):Int):=by rw[wrap_i64] <;> omega
 have h3:IntKind.i64.wrap ((code.length:Int)+(d:Int))=((code.length+d:Nat):Int):=by rw[wrap_i64] <;> omega
 have h4:IntKind.i64.wrap (((code.length+d:Nat):Int)+1)=((code.length+d+1:Nat):Int):=by rw[wrap_i64] <;> omega
 have h5:IntKind.i64.wrap (((8*(t+1):Nat):Int)*((code.length+d+1:Nat):Int))=(qK t code d:Nat):=by
  have hb:8*(t+1)*(code.length+d+1)≤8008*1032769:=Nat.mul_le_mul a6 a6
  unfold qK
  rw[←P8,wrap_i64] <;> omega
 unfold fP fC
 simp only[go_sem,j4,h1,h2,h3,h4,h5]
def aT:Str:=[102,117,110,99,32,109,97,105,110,40,41,32,123,32,112,117,116,40,54,53,41,59,32,125]
def qL:Str:=[102,117,110,99,32,109,97,105,110,40,41,32,123,32,112,117,116,40,54,53,41,32,125]
theorem IG:lw qL=([],22,3):=by
 have h:(dq qL).2=(22,3):=b9
 unfold lw
 simp only
 rw[show (dq qL).2.2=3 by rw[h],show (dq qL).2.1=22 by rw[h],if_pos a8]
def aB:Str:=[83,69,69,68,6,0,0,0,1,0,0,0,1,0,240,1,65,0,16,1,0,0,16,17,0,0,16,16,0,0,16,24,0,0,0,26]
def aC:List Nat:=[32505857,17825857,286261248,269484032,403701760,436207616]
theorem a_c:lw aT=(aB,0,0):=b9
theorem a_r:jY aB=some (aC,1):=b9
theorem a_z:szP (dq aT).1≤2000:=b9
theorem a_x:MU okI aC 1 [] (qK 0 aC 1)=(1,[65],6):=b9
theorem e_c:dQ ⟨[],[],[]⟩=(([],0),7):=b9
theorem w_z:szP (dq qL).1≤2000:=b9
theorem Ra {P:Program}{gb:Nat}{o:cO}{f:FuncId}{R:AV→Prop} (h:bW P gb o f [.agg [.d (.sl []),.d (.sl []),.d (.sl [])]] R):bW P gb o f [.agg [.d .nsl,.d .nsl,.d .nsl]] R:=
 ⟨h.1,fun J w vs h0 h1 h2=>h.2 J w vs h0 h1 (by
  simp only[RVs,RV] at h2 ⊢
  obtain⟨u,us,rfl,⟨ws,rfl,hl,hc⟩,hus⟩:=h2
  refine⟨_,us,rfl,⟨ws,rfl,hl,fun i c hi=>?_⟩,hus⟩
  have hn:([.d .nsl,.d .nsl,.d .nsl]:List C)[i]? = some (.d .nsl):=by
   match i,hi with
   |0,_=>rfl
   |1,_=>rfl
   |2,_=>rfl
  have hs:c=.d (.sl []):=by
   match i,hi with
   |0,hi=>cases hi;rfl
   |1,hi=>cases hi;rfl
   |2,hi=>cases hi;rfl
  obtain⟨v,hv,x,hx,hr⟩:=hc i _ hn
  cases hx
  cases hr
  exact⟨_,hv,_,hs,.sl0⟩)⟩
theorem IH {o:cO} (ht:jM o):bW Tryz.prog 3 o 5 [] (· = bv true):=by
 refine hdG Tryz.func5 rfl [.tmp 0] fun b₀ β0 s0 w0 g=>?_
 simp only[go_sem]
 refine cQ rfl (by simp only[go_sem];exact qI ht (src:=aT) a_z) ?_
 rintro _ rfl
 rw[a_c]
 unfold ym
 simp only[go_sem]
 refine gU rfl (by simp only[go_sem];exact Az aB a8) ?_
 rintro _ rfl
 rw[a_r]
 unfold Aq fP
 simp only[go_sem]
 refine gq aU mixed aW [6] [([4],[0],[],false),([4],[0],[],false),([23],[0],[],false),([22,24],[0],[],false),([],[],[0],false),([6,25],[],[],true)] 1 rfl b9 rfl a8 ?_
 simp only[go_sem]
 iterate 2 (apply aO;(case hg=>first|exact l7|exact⟨_,rfl,by decide,rfl⟩);(case h1=>intro fa ga oa K' hK;simp only[go_sem] at hK ⊢;exact hK))
 refine aO (v:=iv .i64 (qK 0 aC 1:Nat)) l7 (fun fa ga oa K' hK=>?_) ?_
 ·simp only[go_sem] at hK ⊢
  refine gU rfl (by simp only[go_sem];exact F_A 0 aC 1 a8 a8 a8) ?_
  exact Wx
 refine aO (v:=MN (1,[65],6)) l7 (fun fa ga oa K' hK=>?_) ?_
 ·simp only[go_sem] at hK ⊢
  refine gU rfl (by simp only[go_sem];exact IR aC 1 [] (qK 0 aC 1) a8 a8 b9 a8 a8) ?_
  rintro _ rfl
  rw[a_x]
  exact Vn
 unfold MN
 (apply eC;(case hg=>first|exact l7|exact⟨_,rfl,by decide,rfl⟩);(case h1=>intro fa ga oa K' hK;simp only[go_sem] at hK ⊢;exact hK))
 refine gt l7 ?_
 intro K' hK'
 simp only[go_sem]
 refine hK' _ ?_
 clear hK' K'
 simp only[go_sem]
 refine cQ rfl (by simp only[go_sem];exact qI ht (src:=qL) w_z) ?_
 rintro _ rfl
 rw[IG]
 unfold ym
 simp only[go_sem]
 refine cQ rfl (by simp only[go_sem];exact Ra (wE ht (p:=⟨[],[],[]⟩) b9)) ?_
 rintro _ rfl
 rw[e_c]
 unfold pU fP
 exact UO
end
end Go.Proofs.YthnomjfdcidgbaaGreatDoor.Low
namespace Go.Proofs.YthnomjfdcidgbaaGreatDoor
section
open Go Go.Am Go.Asm
theorem FQ {s:Str}:(Src.qN s).1.length≤s.length+1:=by
 unfold Src.qN
 split
 ·simp
 ·split
  ·rename_i h
   exact(Src.oe h).1
  ·simp
theorem MS (p:Src.Prog):szP p=Src.szP p:=by
 unfold szP Src.szP Src.wQ
 show _+(p.funcs.map Src.szF).sum=_
 omega
theorem FR {src:Str} (h:src.length≤1900):szP (dq src).1≤2000:=by
 unfold dq
 split
 ·exact(by decide:szP wn≤2000)
 ·rename_i p k hr
  split
  ·rw[MS]
   unfold Src.Ul at hr
   split at hr
   ·cases hr
   ·split at hr
    ·rename_i q m hq
     split at hr
     ·cases hr
     ·cases hr
      have h1:=Src.Gq _ m hq
      have h2:m≤max 0 (Src.qN src).1.length:=Src.Gn _ m hq
      have h3:=FQ (s:=src)
      simp only
      omega
    ·cases hr
  ·exact(by decide:szP wn≤2000)
end
end Go.Proofs.YthnomjfdcidgbaaGreatDoor
namespace Go.Proofs.YthnomjfdcidgbaaGreatDoor.Low
section
attribute [local congr] Go.Am.ite_cc
open Go Go.Am Go.Asm
theorem Di {src:Str} (h:(dq src).2.2=0):(dq src).2.1=0:=by
 unfold dq at h ⊢
 split
 ·rename_i e k hr
  rw[hr] at h
  exact absurd h (ve hr)
 ·split <;> rfl
theorem Dj {o:cO} (ht:jM o) (src:Str):bW Tryz.prog 3 o 3 [sv src] (· = bv true):=by
 refine hdG Tryz.func3 rfl [.tmp 2] fun b₀ β0 s0 w0 g=>?_
 simp only[go_sem]
 refine cQ rfl (by simp only[go_sem];exact IH ht) ?_
 rintro _ rfl
 by_cases hlen:600<src.length
 ·have hli:(600:Int)<(src.length:Int):=a6
  simp only[go_sem,hli]
 have hli:¬(600:Int)<(src.length:Int):=a6
 have hsz:=FR (src:=src) a6
 have hC:=qI ht hsz
 have hP:=Jh (o:=o) src
 have hat:=Di (src:=src)
 have hca:lw src=(if (dq src).2.2≠0 then([],(dq src).2.1,(dq src).2.2) else if (dQ (dq src).1).2≠0 then([],(dq src).2.1,(dQ (dq src).1).2) else(AB (dQ (dq src).1).1,(dq src).2.1,0)):=rfl
 generalize dq src=r at hsz hC hP hat hca
 obtain⟨p,k,e⟩:=r
 simp only at hat hca hsz
 rw[hca] at hC
 have hI:=wE ht hsz
 have hR:=pV p
 generalize dQ p=m at hC hI hR
 obtain⟨⟨code,d⟩,f⟩:=m
 have hPut:=Kz (code,d) hR.1 hR.2
 unfold pU fP fC at hI
 unfold fP fC at hPut
 unfold wo de gY at hP
 unfold de gY at hI
 unfold ym at hC
 by_cases he:e=0
 case neg=>
  have hei:¬(e:Int)=0:=a6
  rw[if_pos he] at hC
  simp only[go_sem,hli]
  refine cQ rfl Yw ?_
  rintro _ rfl
  simp only[go_sem]
  refine cQ rfl Yk ?_
  rintro _ rfl
  simp only[go_sem,hei]
 subst he
 obtain rfl:=hat rfl
 rw[if_neg a7] at hC
 by_cases hf:f=0
 case neg=>
  have hfi:¬(f:Int)=0:=a6
  simp only[if_pos hf] at hC
  simp only[go_sem,hli]
  refine cQ rfl Yw ?_
  rintro _ rfl
  simp only[go_sem]
  refine cQ rfl Yk ?_
  rintro _ rfl
  simp only[go_sem]
  refine cQ rfl Zf ?_
  rintro _ rfl
  simp only[go_sem,hfi]
 subst hf
 simp only[if_neg (show ¬((0:Nat)≠0) by simp)] at hC
 simp only[go_sem,hli]
 refine cQ rfl Yw ?_
 rintro _ rfl
 simp only[go_sem]
 refine cQ rfl Yk ?_
 rintro _ rfl
 simp only[go_sem]
 refine cQ rfl Zf ?_
 rintro _ rfl
 simp only[go_sem]
 refine gU rfl (by simp only[go_sem];exact hPut) ?_
 rintro _ rfl
 exact UO
end
end Go.Proofs.YthnomjfdcidgbaaGreatDoor.Low
namespace Go.Am
section
section
section
variable {P:Program}{t:TypeId}{ds:List D}
end
end
end
end Go.Am
namespace Go.Proofs.YthnomjfdcidgbaaGreatDoor
section
open Go Go.Am Go.ChangeShapes Go.WideShapes Go.ChangeAt Go.RowKit Go.Lib
theorem own:ownKnob Tryz.prog.godebug=none:=c8
theorem laidOut:laidOutB Tryz.prog=true:=c8
def vB:List (String×DataW Unit):=[("seedcorn/token.words",Rows.laid_seedcorn_token_words),("seedcorn/token.signs",Rows.laid_seedcorn_token_signs)]
theorem Gv:reachBytes=140737488351232:=c8
theorem u9:Tryz.prog.underlying 9=some .string:=c8
theorem u4:Tryz.prog.underlying 4=some .bool:=c8
theorem u3:Tryz.prog.underlying 3=some (.int .i64):=c8
theorem u5:Tryz.prog.underlying 5=some (.int .u8):=c8
def tys:List TypeId:=[3,5,9,74]
theorem oF {H:Type}{enc:TypeId×Value→H}{P:Program}{w:World}{base:Nat}{sp:Nat→Bool}{held:Bool}{fuel:Nat}{t e:TypeId}{n:Nat}{cs:List Value}{zs:List (List UInt8)}{p:List MemPlace}
  (ht:P.underlying t=some (.array n e)) (he:P.underlying e=some .string) (hce:P.cellsOf e=1) (hct:P.cellsOf t=n)
  (h:DataW.trod enc P w base sp held fuel t cs=some (DataW.agg (zs.map fun z=>.lit (.string z)),p)):∀(i:Nat) z,zs[i]? = some z→cs[i]? = some (.string ⟨z.toArray⟩):=by
 cases fuel with
 |zero=>simp[DataW.trod] at h
 |succ fuel=>
   simp only[DataW.trod,ht,hce,hct,K8] at h
   split at h
   ·obtain⟨xs,hm,hx⟩:=H8.1 h
    have hxs:xs.map (·.1)=zs.map fun z=>(DataW.lit (.string z):DataW H):=by
     have:=congrArg Prod.fst hx
     exact W0
    have hxl:xs.length=n:=by simpa using mapM_length hm
    have hzl:zs.length=n:=by
     have:=congrArg List.length hxs
     simp at this
     omega
    intro i z hz
    have hi:i<n:=by
     have:=(l0.1 hz).1
     omega
    obtain⟨b,hb,hf⟩:=mapM_at hm i i (by simp[hi])
    obtain⟨s,hc,rfl,_⟩:=DataW.trod_string he hf
    have h1:cs[i]? = some (.string s):=by
     have:=congrArg (·[0]?) hc
     simpa[G5,D8] using this
    have h2:(xs.map (·.1))[i]? = some (DataW.lit (.string s.data.toList):DataW H):=by simp[hb]
    rw[hxs,x7,hz] at h2
    have h3:z=s.data.toList:=by simpa using h2
    rw[h1,h3]
   ·cases h
theorem Dk {W:World} (h:laidMetH Tryz.prog vB W):∃o,rK 3 o W∧jM o:=by
 rw[MakeChecks.laidMetH_plain _ _ _ c8] at h
 have hwordsT:∀(i:Nat) z,Src.ep[i]? = some z→W.cell? ⟨3,i,none⟩=some (.string ⟨z.toArray⟩):=by
  obtain⟨g,t,cs,fuel,p,hg,hty,hvar,hd⟩:=laidMet.reads h (n:= "seedcorn/token.words") (d:=Rows.laid_seedcorn_token_words) (by simp[vB])
  obtain rfl:=E3 ((show Tryz.prog.globalNamed "seedcorn/token.words" = some 3 by kernel_rfl).symm.trans hg)
  obtain rfl:=E3 ((show (Tryz.prog.globals[3]?).map (·.type)=some 310 by kernel_rfl).symm.trans hty)
  intro i z hz
  have hc:=oF (H:=Unit) (zs:=Src.ep) (show Tryz.prog.underlying 310=some (.array 10 9) by kernel_rfl) u9 c8 c8 hd i z hz
  rw[World.var?_cell hg hvar i,←G1]
  exact hc
 have hsignsT:∀(i:Nat) z,Src.iZ[i]? = some z→W.cell? ⟨0,i,none⟩=some (.string ⟨z.toArray⟩):=by
  obtain⟨g,t,cs,fuel,p,hg,hty,hvar,hd⟩:=laidMet.reads h (n:= "seedcorn/token.signs") (d:=Rows.laid_seedcorn_token_signs) (by simp[vB])
  obtain rfl:=E3 ((show Tryz.prog.globalNamed "seedcorn/token.signs" = some 0 by kernel_rfl).symm.trans hg)
  obtain rfl:=E3 ((show (Tryz.prog.globals[0]?).map (·.type)=some 279 by kernel_rfl).symm.trans hty)
  intro i z hz
  have hc:=oF (H:=Unit) (zs:=Src.iZ) (show Tryz.prog.underlying 279=some (.array 24 9) by kernel_rfl) u9 c8 c8 hd i z hz
  rw[World.var?_cell hg hvar i,←G1]
  exact hc
 have h0:=hwordsT 0 _ rfl
 have hlt:3<W.heap.size:=by
  refine Nat.lt_of_not_le fun hle=>?_
  simp[World.cell?,H9 hle] at h0
 refine⟨fun b=>W.heap[b]?,⟨hlt,fun _ _=>rfl⟩,fun w hw=>⟨fun i t ht=>?_,fun i t ht=>?_⟩⟩
 ·rw[←hwordsT i t ht]
  unfold World.cell?
  rw[show w.heap[3]? = W.heap[3]? from hw.2 3 a8]
 ·rw[←hsignsT i t ht]
  unfold World.cell?
  rw[show w.heap[0]? = W.heap[0]? from hw.2 0 a8]
end
section
open Go Go.Am
def TL:List FuncId:=[3,5,6,15,41,42,75,125,76,77,126,74,78,79,127,203,239,240,253,255,254,256,241,242,40,72,121,196,122,123,124,197,198,199,200,202,201,204,73,43,80,81,128,82,129,205,130,206,16,8,22,54,96,136,211,137,212,139,140,138,213,214,97,141,215,216,221,243,217,218,219,142,220,143,55,56,98,99,23,24,26,60,105,172,223,224,244,173,225,245,106,25,57,100,144,145,146,147,222,148,58,101,149,150,102,151,152,153,154,155,156,157,158,159,160,161,162,163,164,165,166,167,103,168,59,104,169,170,171,17,9,27,28,12,37,14,13,39,38,71,119,191,235,248,249,250,120,192,193,194,195,236,251,252,237,238,7,18,44,83,45,84,85,86,88,87,89,19,46,90,47,49,91,48,50,92,131,132,207,134,208,209,133,20,21,51,52,93,94,53,95,135,210]
theorem clo:Tryz.prog.closure 3=TL:=c8
theorem Gw:Tryz.prog.unfollowed 3=true:=by
 unfold Program.unfollowed
 rw[clo]
 kernel_rfl
theorem Rs:Tryz.prog.recurses 3=true:=by
 unfold Program.recurses
 rw[Gw]
 rfl
theorem Rt:(Rows.stackcCompilesRow.inPlace==Tryz.prog.inPlace 3)=true:=by
 unfold Program.inPlace
 rw[clo]
 kernel_rfl
theorem Ru:(Rows.stackcCompilesRow.named==Tryz.prog.varsNamed 3)=true:=by
 unfold Program.varsNamed
 rw[clo]
 kernel_rfl
theorem Ng:Tryz.prog.goes 3=false:=by
 unfold Program.goes
 rw[clo,Gw]
 kernel_rfl
theorem Ji:joinedFacts Tryz.prog 3 Tryz.f3 Rows.stackcCompilesSpec Rows.stackcCompilesRow=true:=by
 unfold joinedFacts
 rw[Rt,Ru,Gw,Rs]
 kernel_rfl
theorem Gx:false=Rows.stackcCompilesRow.goesBy Tryz.prog:=by
 unfold OpenClaim.goesBy Program.goesAt Program.goesFrom
 rw[show Tryz.prog.funcNamed Rows.stackcCompilesRow.func=some 3 by kernel_rfl]
 simp only[Option.any_some,Ng,R6]
 rfl
end
end Go.Proofs.YthnomjfdcidgbaaGreatDoor

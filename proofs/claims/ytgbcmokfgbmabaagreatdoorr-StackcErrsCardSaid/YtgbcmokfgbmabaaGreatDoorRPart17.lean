/- A part of the proof; no conditions. -/
import Derived.Test.YtgbcmokfgbmabaaGreatDoorRPart16
import Derived.Shelf.SlicesE.Clone
set_option linter.unusedSimpArgs false
set_option linter.unusedVariables false
set_option maxHeartbeats 64000000
set_option maxRecDepth 100000
namespace Go.Mach
section
open Go.Asm (Str)
section
variable {s:Str}
theorem Sr{a b c d:UInt8} (h0:s[0]? = some a) (h1:s[1]? = some b) (h2:s[2]? = some c) (h3:s[3]? = some d):s.take 4=[a,b,c,d]:=by
 match s with
 |a'::b'::c'::d'::r=>
   simp at h0 h1 h2 h3
   subst h0 h1 h2 h3
   rfl
 |[]=>simp at h0
 |[_]=>simp at h1
 |[_,_]=>simp at h2
 |[_,_,_]=>simp at h3
def eM (s:Str) (k:Nat):Nat:=w4 (s.getD k 0) (s.getD (k+1) 0) (s.getD (k+2) 0) (s.getD (k+3) 0)
theorem kq{k:Nat} (h:k<s.length):s[k]? = some (s.getD k 0):=by rw[C9,w9 h];rfl
theorem rf (s:Str) (k:Nat):eM s k<4294967296:=by
 unfold eM w4
 have ha:=(s.getD k 0).toNat_lt;have hb:=(s.getD (k+1) 0).toNat_lt;have hc:=(s.getD (k+2) 0).toNat_lt;have hd:=(s.getD (k+3) 0).toNat_lt
 omega
theorem rh{o k:Nat} (h:o+4*k+4≤s.length):(fq (s.drop o))[k]? = some (eM s (o+4*k)):=by
 unfold eM
 refine ud _ _ ?_ ?_ ?_ ?_ <;> rw[G5]
 ·exact kq a6
 ·rw[show o+(4*k+1)=o+4*k+1 by omega];exact kq a6
 ·rw[show o+(4*k+2)=o+4*k+2 by omega];exact kq a6
 ·rw[show o+(4*k+3)=o+4*k+3 by omega];exact kq a6
theorem AZ (h:12≤s.length):fq ((s.take 12).drop 4)=[eM s 4,eM s 8]:=by
 have hlen8:((s.take 12).drop 4).length=8:=by rw[E0,C2];omega
 have hwl:=oY ((s.take 12).drop 4)
 rw[hlen8] at hwl
 have hl:(s.take 12).length=12:=by rw[C2];omega
 have hg:∀j,j<12→(s.take 12).getD j 0=s.getD j 0:=fun j hj=>by
  rw[C9,C9,H0,if_pos hj]
 have e0:=rh (s:=s.take 12) (o:=4) (k:=0) a6
 have e1:=rh (s:=s.take 12) (o:=4) (k:=1) a6
 unfold eM at e0 e1
 rw[hg _ a8,hg _ a8,hg _ a8,hg _ a8] at e0 e1
 match hx:fq ((s.take 12).drop 4),hwl with
 |[a,b],_=>
   rw[hx] at e0 e1
   simp at e0 e1
   rw[e0,e1]
   rfl
theorem zp (h:12≤s.length) (h2:s.take 4=[83,69,69,68]) :
  ju s=if 16384<eM s 4∨32768<eM s 8∨s.length≠12+4*eM s 4 then none else some (fq (s.drop 12),eM s 8):=by
 unfold ju
 rw[AZ h]
 simp only
 by_cases h3:65548<s.length
 ·rw[if_pos (.inr (.inr h3)),if_pos a6]
 ·rw[if_neg (by rw[not_or,not_or];exact⟨a6,fun h=>h h2,h3⟩)]
  by_cases hc:32768<eM s 8∨s.length≠12+4*eM s 4
  ·rw[if_pos hc,if_pos (.inr hc)]
  ·rw[if_neg hc,if_neg a6]
end
end
end Go.Mach
namespace Go.Proofs.YtgbcmokfgbmabaaGreatDoorR
section
open Go Go.Am Go.Asm Go.Mach Go.Shelf
end
section
open Go Go.Am Go.Asm Go.Mach
def okI (op a b c:Nat):Bool:=eb (op:Nat) (a:Nat) (b:Nat) (c:Nat)
theorem Dz {op a b c:Nat} (h:okI op a b c=true):1≤op∧op≤27∧(4≤op∧op≤15→c<16):=by
 unfold okI eb at h
 rw[l6] at h
 obtain⟨h1,h2⟩:=h
 unfold iM at h1
 rw[l6,A6,A6,A8] at h1
 refine⟨h1.1,h1.2,fun h415=>?_⟩
 have hs:Asm.shape op=(true,true,2):=by
  unfold Asm.shape
  rw[if_neg a6,if_neg a6,if_pos h415]
 rw[A8] at h2
 unfold nP inW at h2
 rw[hs] at h2
 simp at h2
 omega
end
end Go.Proofs.YtgbcmokfgbmabaaGreatDoorR
namespace Go.Mach
section
open Go.Asm (Str)
section
section
variable {okI:Nat→Nat→Nat→Nat→Bool}{code:List Nat}{inp:Str}
def Kr (m m':M):Prop:=m'.mem.length=m.mem.length∧m'.steps≤m.steps+1∧m'.rd≤m.rd+1
theorem Ks {m m1:M} (h:m1.mem.length=m.mem.length∧m1.steps≤m.steps+1∧m1.rd=m.rd) (op a b c:Nat):Kr m (doM code inp m1 op a b c):=by
 obtain⟨h1,h2,h3⟩:=h
 have hn:Kr m m1:=⟨h1,h2,a6⟩
 have hx:∀{pc f:Nat}{r:List Nat}{o:Str},Kr m { m1 with pc:=pc,fin:=f,reg:=r,out:=o }:=⟨h1,h2,by show m1.rd≤_;omega⟩
 unfold doM
 refine cT (fun _=>hx) fun _=>?_
 refine cT (fun _=>hx) fun _=>?_
 refine cT (fun _=>hx) fun _=>?_
 refine cT (fun _=>?_) fun _=>?_
 ·cases m1.mem[(m1.r b+c)%4294967296]? <;> exact hx
 refine cT (fun _=>?_) fun _=>?_
 ·cases code[(m1.r b+c)%4294967296]? <;> exact hx
 refine cT (fun _=>cT (fun _=>⟨by show (m1.mem.set _ _).length=_;rw[D0];exact h1,h2,by show m1.rd≤_;omega⟩) fun _=>hx) fun _=>?_
 refine cT (fun _=>hx) fun _=>?_
 refine cT (fun _=>hx) fun _=>?_
 refine cT (fun _=>hx) fun _=>?_
 refine cT (fun _=>hx) fun _=>?_
 refine cT (fun _=>hx) fun _=>?_
 refine cT (fun _=>?_) fun _=>?_
 ·cases inp[m1.rd]? with
  |none=>exact hx
  |some x=>exact⟨h1,h2,by show m1.rd+1≤_;omega⟩
 refine cT (fun _=>cT (fun _=>hx) fun _=>hx) fun _=>?_
 refine cT (fun _=>cT (fun _=>hx) fun _=>hx) fun _=>?_
 refine cT (fun _=>hx) fun _=>?_
 cases applyN op (m1.r b) (m1.r c) <;> exact hx
theorem DK (m:M):Kr m (lX okI code inp m):=by
 unfold lX
 cases code[m.pc]? with
 |none=>exact⟨rfl,by show m.steps≤_;omega,by show m.rd≤_;omega⟩
 |some w=>exact cT (fun _=>Ks (m:=m) (m1:={ m with steps:=m.steps+1 }) ⟨rfl,j8 _,rfl⟩ _ _ _ _) fun _=>⟨rfl,by show m.steps+1≤_;omega,by show m.rd≤_;omega⟩
end
end
end
end Go.Mach
namespace Go.Proofs.YtgbcmokfgbmabaaGreatDoorR
section
open Go Go.Am Go.Asm Go.Mach
def stD (m:M):List D:=.int .i64 (m.pc:Nat)::(m.reg.map fun x=>.int .u32 (x:Nat))++[kw m.mem,.int .i64 (m.rd:Nat),.str m.out,.int .i64 (m.steps:Nat),.int .i64 (m.fin:Nat)]
def stV (m:M):AV:=.agg ((stD m).map .d)
theorem Kd {s:St}{A B:List D}{mc:C}{x:D} (hA:∀y∈A,fF y=y) (hB:∀y∈B,fF y=y) (hm:Frz s mc x):jK s (.agg (A.map .d++mc::B.map .d)) (.agg ((A++x::B).map .d)):=by
 refine⟨A++x::B,a7,fun i c hc=>?_,rfl⟩
 by_cases h1:i<A.length
 ·rw[G3 (by simpa using h1),x9] at hc
  rw[G3 h1]
  cases hx:A[i]? with
  |none=>rw[hx] at hc;cases hc
  |some y=>
    rw[hx] at hc;cases hc
    exact⟨y,rfl,by have:=Frz.d (s:=s) y;rwa [hA y (l0 hx)] at this⟩
 ·obtain⟨k,rfl⟩:∃k,i=A.length+k:=⟨i-A.length,a6⟩
  rw[E8 a7,j4,T8] at hc
  rw[E8 a6,T8]
  cases k with
  |zero=>simp at hc;subst hc;exact⟨x,rfl,hm⟩
  |succ k=>
    rw[s6,x9] at hc
    rw[s6]
    cases hx:B[k]? with
    |none=>rw[hx] at hc;cases hc
    |some y=>
      rw[hx] at hc;cases hc
      exact⟨y,rfl,by have:=Frz.d (s:=s) y;rwa [hB y (l0 hx)] at this⟩
theorem nA {s:St}{m:M}{mc:C}{l:List C} (hm:Frz s mc (kw m.mem)) (hl:l=((.int .i64 (m.pc:Nat)::m.reg.map fun x=>D.int .u32 (x:Nat)):List D).map .d++mc::([.int .i64 (m.rd:Nat),.str m.out,.int .i64 (m.steps:Nat),.int .i64 (m.fin:Nat)]:List D).map .d):jK s (.agg l) (stV m):=by
 rw[hl]
 refine Kd (fun y hy=>?_) (fun y hy=>?_) hm
 ·rcases z6.1 hy with rfl|hy
  ·rfl
  ·obtain⟨x,_,rfl⟩:=F7.1 hy;rfl
 ·simp only[z6,List.mem_nil_iff,E3] at hy
  rcases hy with rfl|rfl|rfl|rfl <;> rfl
def stC (m:M) (mc:C):List C:=((.int .i64 (m.pc:Nat)::m.reg.map fun x=>D.int .u32 (x:Nat)):List D).map .d++mc::([.int .i64 (m.rd:Nat),.str m.out,.int .i64 (m.steps:Nat),.int .i64 (m.fin:Nat)]:List D).map .d
theorem Ch {m:M} (h:m.reg.length=16) (mc:C):(stC m mc).length=22:=by simp[stC,h]
theorem vG:∀(L pre cells:List C),cells.length=L.length→setAt (pre++cells) pre.length L=pre++L
 |[],pre,cells,h=>by
   obtain rfl:=u7 (by simpa using h)
   rfl
 |c::L,pre,x::cells,h=>by
   unfold setAt
   have:=vG L (pre++[c]) cells (by simpa using h)
   rw[s5,s5,j5] at this
   rw[show (pre++x::cells).set pre.length c=pre++([c]++cells) by simp]
   exact this
theorem nB {L cells:List C} (h:cells.length=L.length):setAt cells 0 L=L:=vG L [] cells h
def NU (r:Nat×Str×Nat):AV:=.agg [.d (.int .i64 (r.1:Nat)),.d (.str r.2.1),.d (.int .i64 (r.2.2:Nat))]
theorem GJ {s:St}{a c:Int}{b:Str}:jK s (.agg [.d (.int .i64 a),.d (.str b),.d (.int .i64 c)]) (.agg [.d (.int .i64 a),.d (.str b),.d (.int .i64 c)]):=by
 refine⟨[.int .i64 a,.str b,.int .i64 c],rfl,fun i c hc'=>?_,rfl⟩
 match i,hc' with
 |0,hc'=>cases hc';exact⟨_,rfl,.d _⟩
 |1,hc'=>cases hc';exact⟨_,rfl,.d _⟩
 |2,hc'=>cases hc';exact⟨_,rfl,.d _⟩
def AG:Option (List Nat×Nat)→AV
 |some m=>.tup [eQ m,iv .i64 0]
 |none=>.tup [eQ ([],0),iv .i64 7]
theorem GK {s:St}{cc:C}{code:List Nat}{d n:Nat} (hc:Frz s cc (eA code)):nX s [.agg [cc,.d (.int .i64 (d:Nat))],iv .i64 (n:Nat)] (.tup [eQ (code,d),iv .i64 (n:Nat)]):=by
 refine⟨_,⟨eQ (code,d),_,rfl,⟨[eA code,.int .i64 (d:Nat)],rfl,fun i c hc'=>?_,rfl⟩,_,_,rfl,⟨_,.d _,rfl⟩,rfl⟩,rfl⟩
 match i,hc' with
 |0,hc'=>cases hc';exact⟨_,rfl,hc⟩
 |1,hc'=>cases hc';exact⟨_,rfl,.d _⟩
end
section
attribute [local congr] Go.Am.ite_cc
open Go Go.Am Go.Asm Go.Mach
theorem AP (w:Nat) (hw:w<4294967296):aq Tryz.prog 206 [iv .u32 w] (· = Cg w):=by
 refine hdR Tryz.func206 rfl [.cell 2 141,.tmp 3] fun g=>?_
 have d1:((w:Nat):Int).tdiv 16777216=((w/16777216:Nat):Int):=rfl
 have d2:((w:Nat):Int).tdiv 1048576=((w/1048576:Nat):Int):=rfl
 have d3:((w:Nat):Int).tdiv 65536=((w/65536:Nat):Int):=rfl
 have m1:∀x:Nat,((x:Nat):Int).tmod 16=((x%16:Nat):Int):=fun _=>rfl
 have m2:((w:Nat):Int).tmod 65536=((w%65536:Nat):Int):=rfl
 have c64:∀x:Nat,x<4294967296→IntKind.i64.wrap ((x:Nat):Int)=((x:Nat):Int):=fun x hx=>by rw[wrap_i64] <;> omega
 have u1:=iw (n:=w/16777216) a6
 have u2:=iw (n:=w/1048576) a6
 have u3:=iw (n:=w/65536) a6
 have u4:=iw (n:=w/1048576%16) a6
 have u5:=iw (n:=w/65536%16) a6
 have u6:=iw (n:=w%65536) a6
 simp only[go_sem,d1,d2,d3,m1,m2,u1,u2,u3,u4,u5,u6,c64 (w/16777216) a6,c64 (w/1048576%16) a6,c64 (w/65536%16) a6,c64 (w%65536) a6,eE]
 refine bG rfl (by simp only[go_sem];exact Fv (w/16777216:Nat) (w/1048576%16:Nat) (w/65536%16:Nat) (w%65536:Nat)) ?_
 rintro _ rfl
 unfold Cg
 cases hR:eb (w/16777216:Nat) (w/1048576%16:Nat) (w/65536%16:Nat) (w%65536:Nat)
 ·simp only[go_sem,eE]
  exact⟨_,yI,rfl⟩
 ·simp only[go_sem,eE]
  exact⟨_,yI,rfl⟩
theorem Kj (s:Str) (k:Nat) (h:k+4≤s.length) (hs:s.length≤1000000000):aq Tryz.prog 55 [sv s,iv .i64 k] (· = iv .u32 (eM s k:Nat)):=by
 refine hdP Tryz.func55 rfl [4] fun g=>?_
 have ha:=kq (s:=s) (k:=k) a6
 have hb:=kq (s:=s) (k:=k+1) a6
 have hc:=kq (s:=s) (k:=k+2) a6
 have hd:=kq (s:=s) (k:=k+3) a6
 unfold eM
 generalize s.getD k 0=a at ha ⊢
 generalize s.getD (k+1) 0=b at hb ⊢
 generalize s.getD (k+2) 0=c at hc ⊢
 generalize s.getD (k+3) 0=d at hd ⊢
 have la:=a.toNat_lt
 have lb:=b.toNat_lt
 have lc:=c.toNat_lt
 have ld:=d.toNat_lt
 have ia:IntKind.i64.wrap ((k:Int)+1)=((k+1:Nat):Int):=by rw[wrap_i64] <;> omega
 have ib:IntKind.i64.wrap ((k:Int)+2)=((k+2:Nat):Int):=by rw[wrap_i64] <;> omega
 have ic:IntKind.i64.wrap ((k:Int)+3)=((k+3:Nat):Int):=by rw[wrap_i64] <;> omega
 have p0:(0:Int)≤(k:Int):=a6
 have p1:(0:Int)≤((k+1:Nat):Int):=a6
 have p2:(0:Int)≤((k+2:Nat):Int):=a6
 have p3:(0:Int)≤((k+3:Nat):Int):=a6
 have e1:IntKind.u32.wrap (256*((b.toNat:Nat):Int))=((256*b.toNat:Nat):Int):=by rw[IntKind.wrap_u32];omega
 have e2:IntKind.u32.wrap (65536*((c.toNat:Nat):Int))=((65536*c.toNat:Nat):Int):=by rw[IntKind.wrap_u32];omega
 have e3:IntKind.u32.wrap (16777216*((d.toNat:Nat):Int))=((16777216*d.toNat:Nat):Int):=by rw[IntKind.wrap_u32];omega
 have s1:IntKind.u32.wrap (((a.toNat:Nat):Int)+((256*b.toNat:Nat):Int))=((a.toNat+256*b.toNat:Nat):Int):=by rw[IntKind.wrap_u32];omega
 have s2:IntKind.u32.wrap (((a.toNat+256*b.toNat:Nat):Int)+((65536*c.toNat:Nat):Int))=((a.toNat+256*b.toNat+65536*c.toNat:Nat):Int):=by rw[IntKind.wrap_u32];omega
 have s3:IntKind.u32.wrap (((a.toNat+256*b.toNat+65536*c.toNat:Nat):Int)+((16777216*d.toNat:Nat):Int))=((a.toNat+256*b.toNat+65536*c.toNat+16777216*d.toNat:Nat):Int):=by rw[IntKind.wrap_u32];omega
 simp only[go_sem]
 refine jF b9 ?_
 simp only[go_sem,ia,ib,ic,p0,p1,p2,p3,A8,ha,hb,hc,hd,iw (show a.toNat<4294967296 by omega),iw (show b.toNat<4294967296 by omega),iw (show c.toNat<4294967296 by omega),iw (show d.toNat<4294967296 by omega),e1,e2,e3,s1,s2,s3]
 rfl
theorem Kk {x:UInt8}{n:Nat} (h:¬x=UInt8.ofNat n) (hn:n<256):¬((x.toNat:Nat):Int)=(n:Nat):=fun e=>h (Q3.1 (by rw[O2];omega))
theorem AQ (s:Str) (hs:s.length≤1000000000):aq Tryz.prog 21 [sv s] (· = AG (ju s)):=by
 refine hdR Tryz.func21 rfl [.cell 2 31,.tmp 3] fun g=>?_
 have bad:ju s=none→AG (ju s)=.tup [eQ ([],0),iv .i64 7]:=fun h=>by rw[h];rfl
 by_cases h1:s.length<12
 ·have hi:(s.length:Int)<12:=a6
  rw[bad (by unfold ju;rw[if_pos (.inl h1)])]
  simp only[go_sem,hi,eE]
  exact⟨_,je,rfl⟩
 have hi:¬(s.length:Int)<12:=a6
 obtain⟨x0,g0⟩:=getq (l:=s) (k:=0) a6
 obtain⟨x1,g1⟩:=getq (l:=s) (k:=1) a6
 obtain⟨x2,g2⟩:=getq (l:=s) (k:=2) a6
 obtain⟨x3,g3⟩:=getq (l:=s) (k:=3) a6
 have ht:=Sr g0 g1 g2 g3
 have hbad:¬(x0=83∧x1=69∧x2=69∧x3=68)→ju s=none:=fun h=>by
  unfold ju
  rw[if_pos (.inr (.inl (by rw[ht];intro e;simp only[Q0,L1] at e;exact h e)))]
 by_cases c0:x0=83
 case neg=>
  rw[bad (hbad (by simp[c0]))]
  have c0:¬((x0.toNat:Nat):Int)=83:=Kk (n:=83) c0 a8
  simp only[go_sem,hi,g0,g1,g2,g3,c0,eE]
  exact⟨_,je,rfl⟩
 by_cases c1:x1=69
 case neg=>
  rw[bad (hbad (by simp[c1]))]
  have c0:((x0.toNat:Nat):Int)=83:=by rw[c0];rfl
  have c1:¬((x1.toNat:Nat):Int)=69:=Kk (n:=69) c1 a8
  simp only[go_sem,hi,g0,g1,g2,g3,c0,c1,eE]
  exact⟨_,je,rfl⟩
 by_cases c2:x2=69
 case neg=>
  rw[bad (hbad (by simp[c2]))]
  have c0:((x0.toNat:Nat):Int)=83:=by rw[c0];rfl
  have c1:((x1.toNat:Nat):Int)=69:=by rw[c1];rfl
  have c2:¬((x2.toNat:Nat):Int)=69:=Kk (n:=69) c2 a8
  simp only[go_sem,hi,g0,g1,g2,g3,c0,c1,c2,eE]
  exact⟨_,je,rfl⟩
 by_cases c3:x3=68
 case neg=>
  rw[bad (hbad (by simp[c3]))]
  have c0:((x0.toNat:Nat):Int)=83:=by rw[c0];rfl
  have c1:((x1.toNat:Nat):Int)=69:=by rw[c1];rfl
  have c2:((x2.toNat:Nat):Int)=69:=by rw[c2];rfl
  have c3:¬((x3.toNat:Nat):Int)=68:=Kk (n:=68) c3 a8
  simp only[go_sem,hi,g0,g1,g2,g3,c0,c1,c2,c3,eE]
  exact⟨_,je,rfl⟩
 have ht':s.take 4=[83,69,69,68]:=by rw[ht,c0,c1,c2,c3]
 have c0:((x0.toNat:Nat):Int)=83:=by rw[c0];rfl
 have c1:((x1.toNat:Nat):Int)=69:=by rw[c1];rfl
 have c2:((x2.toNat:Nat):Int)=69:=by rw[c2];rfl
 have c3:((x3.toNat:Nat):Int)=68:=by rw[c3];rfl
 have hI:=zp (s:=s) a6 ht'
 have hW:=Kj s
 have hat:∀k,k+4≤s.length-12→True:=fun _ _=>trivial
 have hx:∀k,12+4*k+4≤s.length→(fq (s.drop 12))[k]? = some (eM s (12+4*k)):=fun k hk=>rh hk
 have hxl:(fq (s.drop 12)).length=(s.length-12)/4:=by rw[oY,E0]
 have hn:=rf s 4
 have hd:=rf s 8
 have hw4:=hW 4 a6 hs
 have hw8:=hW 8 a6 hs
 rw[hI]
 rw[hI] at bad
 clear hI hbad ht ht'
 generalize eM s 4=n at *
 generalize eM s 8=d at *
 generalize fq (s.drop 12)=xs at *
 simp only[go_sem,hi,g0,g1,g2,g3,c0,c1,c2,c3]
 refine bG rfl (by simp only[go_sem];exact hw4) ?_
 rintro _ rfl
 simp only[go_sem]
 refine bG rfl (by simp only[go_sem];exact hw8) ?_
 rintro _ rfl
 have k1:IntKind.i64.wrap ((n:Nat):Int)=((n:Nat):Int):=by rw[wrap_i64] <;> omega
 have k2:IntKind.i64.wrap (4*(n:Int))=((4*n:Nat):Int):=by rw[wrap_i64] <;> omega
 have k3:IntKind.i64.wrap (12+((4*n:Nat):Int))=((12+4*n:Nat):Int):=by rw[wrap_i64] <;> omega
 have k4:IntKind.i64.wrap ((d:Nat):Int)=((d:Nat):Int):=by rw[wrap_i64] <;> omega
 by_cases b1:16384<n
 ·rw[if_pos (.inl b1)]
  have b1:(16384:Int)<(n:Int):=a6
  simp only[go_sem,b1,eE]
  exact⟨_,je,rfl⟩
 have b1i:¬(16384:Int)<(n:Int):=a6
 by_cases b2:32768<d
 ·rw[if_pos (.inr (.inl b2))]
  have b2:(32768:Int)<(d:Int):=a6
  simp only[go_sem,b1i,b2,eE]
  exact⟨_,je,rfl⟩
 have b2i:¬(32768:Int)<(d:Int):=a6
 by_cases b3:s.length=12+4*n
 case neg=>
  rw[if_pos (.inr (.inr b3))]
  have b3:¬(s.length:Int)=((12+4*n:Nat):Int):=a6
  simp only[go_sem,b1i,b2i,k1,k2,k3,b3,eE]
  exact⟨_,je,rfl⟩
 have b3i:(s.length:Int)=((12+4*n:Nat):Int):=a6
 rw[if_neg a6]
 have hxn:xs.length=n:=a6
 simp only[go_sem,b1i,b2i,k1,k2,k3,b3i,k4,eE]
 refine ff (fun N st=>∃(k:Nat) (cc:C),N+k=n∧st.f 0=sv s∧st.f 4=iv .u32 n∧st.f 7=iv .i64 (k:Nat)∧st.f 2=.one (.ptr 2 (nxC 32 (g 2)) 0)∧st.gen 2=nxC 32 (g 2)∧st.obj 2=some [.d .nsl,.d (.int .i64 0)]∧st.f 6=.one (.ptr 6 (st.gen 6) 0)∧st.obj 6=some [cc,.d (.int .i64 d)]∧
  ((k=0∧cc=.d .nsl)∨(0<k∧cc=.osl 69 (st.gen 69) 1 0 k∧st.obj 69=some (iC (xs.take k))))) n ?_ ?_
 ·refine⟨0,.d .nsl,rfl,?_⟩
  simp only[go_sem]
  exact .inl trivial
 rintro N f g' ob ⟨k,cc,hk,q0,q4,q7,q2,q2g,q2o,q6,q6o,qc⟩
 simp only at q0 q4 q7 q2 q2g q2o q6 q6o qc
 have hw:=ab (k:=k) a6
 by_cases hlt:k<n
 ·have hlti:(k:Int)<(n:Int):=a6
  have k5:IntKind.i64.wrap (4*(k:Int))=((4*k:Nat):Int):=by rw[wrap_i64] <;> omega
  have k6:IntKind.i64.wrap (12+((4*k:Nat):Int))=((12+4*k:Nat):Int):=by rw[wrap_i64] <;> omega
  have hwk:=hW (12+4*k) a6 hs
  have hxk:=hx k a6
  have hlw:=rf s (12+4*k)
  generalize eM s (12+4*k)=w at hwk hxk hlw
  have hnx:xs.take (k+1)=xs.take k++[w]:=by rw[B4,hxk];rfl
  have htl:(xs.take k).length=k:=by rw[C2];omega
  simp only[go_sem,q0,q4,q7,k1,hlti]
  refine fg aP mixed [68,69,6] [([6],[0],[],false),([61],[0],[],false),([0],[],[],false),([7],[],[],false),([64],[],[],false),([65],[],[],false),([63,66],[],[],false),([67],[],[0],false),([62,68],[],[1],false),([6],[],[],false),([70,69],[],[],true)] 3 b9 rfl a8 ?_
  simp only[go_sem]
  iterate 6 (apply aE;· (intro fa ga oa K' hK;simp only[go_sem,q0,q7,q6,q6o,k5,k6] at hK ⊢;exact hK))
  refine aE (v:=iv .u32 (w:Nat)) (fun fa ga oa K' hK=>?_) ?_
  ·simp only[go_sem] at hK ⊢
   refine eV (k:=bx K') rfl (by simp only[go_sem];exact hwk) (by simp only[go_sem];rfl) ?_
   exact Wq
  (apply cq;· (intro fa ga oa K' hK;simp only[go_sem,aH] at hK ⊢;exact hK))
  rcases qc with⟨hk0,rfl⟩|⟨hk0,rfl,qo⟩
  ·(apply cq;· (intro fa ga oa K' hK;simp only[go_sem,aH] at hK ⊢;exact⟨⟨a8,a8⟩,hK⟩))
   (apply aE;· (intro fa ga oa K' hK;simp only[go_sem,q6,q6o] at hK ⊢;exact hK))
   apply cw
   intro K' hK'
   simp only[go_sem,q6,q6o]
   refine hK' _ ?_
   clear hK' K'
   simp only[go_sem,q7,hw]
   refine eU (N-1) a6 ⟨k+1,.osl 69 (nxC 49 (g' 69)) 1 0 1,a6,?_⟩
   simp only[go_sem,q0,q4,q2,q2g,q2o,q6]
   subst hk0
   refine .inr ⟨a6,rfl,?_⟩
   rw[hnx];rfl
  ·have hcl:(iC (xs.take k)).length=k:=by unfold iC;rw[j4,htl]
   (apply cq;· (intro fa ga oa K' hK;simp only[go_sem,qo,aH] at hK ⊢;exact⟨a6,⟨a8,a6⟩,hK⟩))
   (apply aE;· (intro fa ga oa K' hK;simp only[go_sem,q6,q6o] at hK ⊢;exact hK))
   apply cw
   intro K' hK'
   simp only[go_sem,q6,q6o]
   refine hK' _ ?_
   clear hK' K'
   simp only[go_sem,q7,hw]
   refine eU (N-1) a6 ⟨k+1,.osl 69 (nxC (apC 48 (g' 69) 0) (g' 69)) 1 0 (k+1),a6,?_⟩
   simp only[go_sem,q0,q4,q2,q2g,q2o,q6]
   refine .inr ⟨a6,?_⟩
   rw[hnx,l7 a6];unfold iC;simp
 ·have hlti:¬(k:Int)<(n:Int):=a6
  obtain rfl:k=n:=a6
  rw[l7 a6] at qc
  simp only[go_sem,q0,q4,q7,k1,hlti,q6,q6o,q2,q2g,q2o]
  refine⟨_,GK (code:=xs) (d:=d) (n:=0) ?_,rfl⟩
  rcases qc with⟨hk0,rfl⟩|⟨hk0,rfl,qo⟩
  ·obtain rfl:xs=[]:=u7 a6
   exact .d .nsl
  ·exact se (cells:=iC xs) (off:=0) rfl (by simp[upd,qo]) xs (fun n=>.int .u32 (n:Nat)) (fun _=>rfl) hxn (fun j a h=>by rw[C0];unfold iC;rw[x9,h];rfl) (by unfold iC;rw[j4];omega)
theorem GR (code:List Nat) (d:Nat) (hd:d≤32768):aq Tryz.prog 57 [eQ (code,d)] (· = stV (Mach.start d)):=by
 refine hdR Tryz.func57 rfl [.cell 2 115] fun g=>?_
 have hdi:(d:Int)≤32768:=a6
 unfold eQ
 by_cases h0:d=0
 ·subst h0
  simp only[go_sem]
  exact⟨_,nA (m:=Mach.start 0) (.d .nsl) rfl,rfl⟩
 ·have h0i:(0:Int)<(d:Int):=a6
  simp only[go_sem,h0i,hdi]
  refine⟨j8 _,a6,a6,_,nA (m:=Mach.start d) ?_ rfl,rfl⟩
  exact tL (code:=List.replicate d 0) (by simp[upd]) (by simp[upd]) a7
def GS:Option Nat→AV
 |some x=>.tup [iv .u32 (x:Nat),bv true]
 |none=>.tup [iv .u32 0,bv false]
theorem Kl (l:List Nat) (b c:Nat) (hl:l.length≤1000000) (hc:c<65536):aq Tryz.prog 208 [.one (.d (kw l)),iv .u32 b,iv .i64 c] (· = GS (l[(b+c)%4294967296]?)):=by
 refine hdP Tryz.func208 rfl [6,7] fun g=>?_
 have e1:=iw (n:=c) a6
 have e2:=Cf b c
 have hlt:(b+c)%4294967296<4294967296:=U8 _ a8
 generalize (b+c)%4294967296=at' at e2 hlt ⊢
 have e3:=w64 (n:=at') a6
 have e4:=w64 (n:=l.length) a6
 have h0:(0:Int)≤(at':Int):=a6
 unfold kw
 by_cases h:at'<l.length
 ·obtain⟨x,hx⟩:=getq h
  have hn:¬(l.length:Int)≤(at':Int):=a6
  have hg:(l.map fun x=>[D.int .u32 (x:Nat)])[at']? = some [.int .u32 (x:Nat)]:=by rw[x9,hx];rfl
  rw[hx]
  simp only[go_sem,e1,e2,e3,e4,hn,h0,hg,j4,GS]
 ·have hy:(l.length:Int)≤(at':Int):=a6
  rw[D6 a6]
  simp only[go_sem,e1,e2,e3,e4,hy,j4,GS]
section
def okW (w:Nat):Bool:=okI (w/16777216) (w/1048576%16) (w/65536%16) (w%65536)
def nd (w:Nat):List D:=if okW w=true then [.int .i64 (w/16777216:Nat),.int .i64 (w/1048576%16:Nat),.int .i64 (w/65536%16:Nat),.int .i64 (w%65536:Nat)] else [.int .i64 0,.int .i64 0,.int .i64 0,.int .i64 0]
theorem yN (w:Nat):(nd w).length=4:=by unfold nd;split <;> rfl
theorem DD (w:Nat):∀x∈nd w,fF x=x:=fun x hx=>by
 unfold nd at hx
 split at hx <;> simp only[z6,A4,E3] at hx <;> rcases hx with rfl|rfl|rfl|rfl <;> rfl
def eC (l:List Nat):List C:=l.flatMap fun w=>(nd w).map .d
def uN (l:List Nat):List C:=l.map fun w=>.d (.bool (okW w))
theorem DE (l:List Nat):uN l=l.flatMap fun w=>([D.bool (okW w)]).map .d:=by
 unfold uN
 induction l with
 |nil=>rfl
 |cons a l ih=>simpa using ih
theorem gU:∀l:List Nat,(eC l).length=4*l.length
 |[]=>rfl
 |w::l=>by
   have ih:=gU l
   unfold eC at ih ⊢
   rw[D3,j5,j4,yN,ih];simp only[j6];omega
theorem AR (l:List Nat) (w:Nat):eC (l++[w])=eC l++(nd w).map .d:=by unfold eC;rw[N6];simp
theorem DF (l:List Nat) (w:Nat):uN (l++[w])=uN l++[.d (.bool (okW w))]:=by unfold uN;simp
variable {pre rest:List C}
theorem UL{p:Nat} (h:pre.length=p) (x0 x1 x2 x3 a b c d:C):((((pre++x0::x1::x2::x3::rest).set p a).set (p+1) b).set (p+1+1) c).set (p+1+1+1) d=(pre++[a,b,c,d])++rest:=by
 subst h
 rw[show pre.length+1+1=pre.length+2 from rfl,show pre.length+2+1=pre.length+3 from rfl]
 simp
theorem UM{p:Nat} (h:pre.length=p) (x0 a:C):(pre++x0::rest).set p a=(pre++[a])++rest:=by
 subst h
 simp
def NX (w:Nat):AV:=.tup [.agg ((nd w).map .d),iv .i64 (if okW w=true then 0 else 7)]
theorem Km (w:Nat):Cg w=NX w:=by
 unfold Cg NX nd okW okI
 split <;> rfl
theorem NY (code:List Nat) (d:Nat) (hl:code.length≤1000000) (hcw:∀w∈code,w<4294967296):aq Tryz.prog 142 [eQ (code,d)] (· = .tup [.one (.d (.sl (code.map nd))),.one (.d (.sl (code.map fun w=>[.bool (okW w)])))]):=by
 refine hdR Tryz.func142 rfl [.tmp 2,.tmp 3] fun g=>?_
 have h0:(0:Int)≤(code.length:Int):=a6
 unfold eQ eA
 simp only[go_sem,j4,h0]
 refine⟨j8 _,a6,a6,j8 _,a6,a6,?_⟩
 refine ff (fun n st=>∃k:Nat,n+k=code.length∧st.f 1=.one (.ptr 1 (nxC 32 (g 1)) 0)∧st.gen 1=nxC 32 (g 1)∧st.obj 1=some [.d (.sl (code.map fun n=>[.int .u32 (n:Nat)])),.d (.int .i64 (d:Nat))]∧st.f 6=iv .i64 k∧
  st.f 4=.one (.osl 12 (st.gen 12) 4 0 code.length)∧st.obj 12=some (eC (code.take k)++(List.replicate n [C.d (.int .i64 0),.d (.int .i64 0),.d (.int .i64 0),.d (.int .i64 0)]).flatten)∧
  st.f 5=.one (.osl 16 (st.gen 16) 1 0 code.length)∧st.obj 16=some (uN (code.take k)++(List.replicate n [C.d (.bool false)]).flatten)) code.length ?_ ?_
 ·refine⟨0,rfl,?_⟩
  simp only[go_sem]
  try exact⟨rfl,rfl⟩
 rintro n f g' ob ⟨k,hk,q1,q1g,q1o,q6,q4,q4o,q5,q5o⟩
 simp only at q1 q1g q1o q6 q4 q4o q5 q5o
 have hw:=ab (k:=k) a6
 cases n with
 |zero=>
   obtain rfl:k=code.length:=a6
   have hno:¬(code.length:Int)<(code.length:Int):=a6
   rw[l7 (j8 _)] at q4o q5o
   simp only[L7,List.flatten_nil,l8] at q4o q5o
   simp only[go_sem,q1,q1g,q1o,q6,q4,q5,hno,j4]
   exact⟨_,⟨_,⟨_,_,rfl,wX (dm (cells:=eC code) rfl code nd (by simp[upd,q4o]) rfl (fun a _=>DD a) (fun a _=>yN a) rfl),_,_,rfl,wX (dm (cells:=uN code) rfl code (fun w=>[.bool (okW w)]) (by simp[upd,q5o]) (DE code) (fun a _ x hx=>by simp only[C4] at hx;subst hx;rfl) (fun _ _=>rfl) rfl),rfl⟩,rfl⟩,rfl⟩
 |succ m=>
   have hlt:k<code.length:=a6
   have hlti:(k:Int)<(code.length:Int):=a6
   have hk0:(0:Int)≤(k:Int):=a6
   obtain⟨w,hwk⟩:=getq hlt
   have hg:(code.map fun n=>[D.int .u32 (n:Nat)])[k]? = some [.int .u32 (w:Nat)]:=by rw[x9,hwk];rfl
   have hD:=AP w (hcw w (l0 hwk))
   rw[Km] at hD
   have htk:code.take (k+1)=code.take k++[w]:=by rw[B4,hwk];rfl
   have htl:(code.take k).length=k:=by rw[C2];omega
   have hpl:(eC (code.take k)).length=k*4:=by rw[gU,htl];omega
   have hol:(uN (code.take k)).length=k:=by unfold uN;rw[j4,htl]
   have hs4:=fun x a b c d=>UL (rest:=(List.replicate m [C.d (.int .i64 0),.d (.int .i64 0),.d (.int .i64 0),.d (.int .i64 0)]).flatten) hpl x x x x a b c d
   have hs1:=UM (rest:=(List.replicate m [C.d (.bool false)]).flatten) hol (C.d (.bool false))
   rw[D8,D1] at q4o q5o
   have hi1:=AR (code.take k) w
   have ho1:=DF (code.take k) w
   rw[←htk] at hi1 ho1
   generalize eC (code.take k)=A at q4o hpl hs4 hi1
   generalize uN (code.take k)=B at q5o hol hs1 ho1
   unfold NX nd at hD
   unfold nd at hi1
   simp only[go_sem,q1,q1g,q1o,q6,hlti,hk0,hg,j4]
   cases hR:okW w
   ·rw[hR,if_neg a7] at hD
    rw[hR,if_neg a7] at hi1
    rw[hR] at ho1
    simp only[l5,v8,C3,A9] at hD hi1
    exact Wd
   ·rw[hR,if_pos rfl] at hD
    rw[hR,if_pos rfl] at hi1
    rw[hR] at ho1
    simp only[l5,v8,B6] at hD hi1
    exact Wd
end
end
section
open Go Go.Am Go.Asm Go.Mach
section
structure WC (cs:List C) (code:List Nat) (inp:Str) (m:M) (mc xc cc:C):Prop where
 len:cs.length=28
 c0:cs[0]? = some (.d (.int .i64 (m.pc:Nat)))
 rl:m.reg.length=16
 rg:∀a,a<16→cs[1+a]? = some (.d (.int .u32 (m.r a:Nat)))
 c17:cs[17]? = some (mc)
 c18:cs[18]? = some (.d (.int .i64 (m.rd:Nat)))
 c19:cs[19]? = some (.d (.str []))
 c20:cs[20]? = some (.d (.int .i64 (m.steps:Nat)))
 c21:cs[21]? = some (.d (.int .i64 (m.fin:Nat)))
 c22:cs[22]? = some (xc)
 c23:cs[23]? = some (.d (.sl (code.map nd)))
 c24:cs[24]? = some (.d (.sl (code.map fun w=>[.bool (okW w)])))
 c25:cs[25]? = some (.d (eA code))
 c26:cs[26]? = some (.d (.str inp))
 c27:cs[27]? = some (cc)
section
variable {cs:List C}{code:List Nat}{inp:Str}{m:M}{mc xc cc:C}
theorem WC.setReg (h:WC cs code inp m mc xc cc) {a:Nat} (ha:a<16) (x:Nat):WC (cs.set (1+a) (.d (.int .u32 (x:Nat)))) code inp { m with reg:=m.reg.set a x } mc xc cc:=by
 have hl:=h.len
 refine⟨by simp[h.len],by rw[ao a6];exact h.c0,by simp[h.rl],fun k hk=>?_,by rw[ao a6];exact h.c17,by rw[ao a6];exact h.c18,by rw[ao a6];exact h.c19,by rw[ao a6];exact h.c20,by rw[ao a6];exact h.c21,by rw[ao a6];exact h.c22,by rw[ao a6];exact h.c23,by rw[ao a6];exact h.c24,by rw[ao a6];exact h.c25,by rw[ao a6];exact h.c26,by rw[ao a6];exact h.c27⟩
 rw[Sc h.rl ha]
 by_cases hk':k=a
 ·subst hk';rw[if_pos rfl,jT a6]
 ·rw[if_neg hk',ao a6];exact h.rg k hk
theorem WC.setPc (h:WC cs code inp m mc xc cc) (n:Nat):WC (cs.set 0 (.d (.int .i64 (n:Nat)))) code inp { m with pc:=n } mc xc cc:=
 ⟨by simp[h.len],jT (by rw[h.len];decide),h.rl,fun k hk=>by rw[ao a6];exact h.rg k hk,by rw[ao a6];exact h.c17,by rw[ao a6];exact h.c18,by rw[ao a6];exact h.c19,by rw[ao a6];exact h.c20,by rw[ao a6];exact h.c21,by rw[ao a6];exact h.c22,by rw[ao a6];exact h.c23,by rw[ao a6];exact h.c24,by rw[ao a6];exact h.c25,by rw[ao a6];exact h.c26,by rw[ao a6];exact h.c27⟩
theorem WC.setSteps (h:WC cs code inp m mc xc cc) (n:Nat):WC (cs.set 20 (.d (.int .i64 (n:Nat)))) code inp { m with steps:=n } mc xc cc:=
 ⟨by simp[h.len],by rw[ao a6];exact h.c0,h.rl,fun k hk=>by rw[ao a6];exact h.rg k hk,by rw[ao a6];exact h.c17,by rw[ao a6];exact h.c18,by rw[ao a6];exact h.c19,jT (by rw[h.len];decide),by rw[ao a6];exact h.c21,by rw[ao a6];exact h.c22,by rw[ao a6];exact h.c23,by rw[ao a6];exact h.c24,by rw[ao a6];exact h.c25,by rw[ao a6];exact h.c26,by rw[ao a6];exact h.c27⟩
theorem WC.setFin (h:WC cs code inp m mc xc cc) (n:Nat):WC (cs.set 21 (.d (.int .i64 (n:Nat)))) code inp { m with fin:=n } mc xc cc:=
 ⟨by simp[h.len],by rw[ao a6];exact h.c0,h.rl,fun k hk=>by rw[ao a6];exact h.rg k hk,by rw[ao a6];exact h.c17,by rw[ao a6];exact h.c18,by rw[ao a6];exact h.c19,by rw[ao a6];exact h.c20,jT (by rw[h.len];decide),by rw[ao a6];exact h.c22,by rw[ao a6];exact h.c23,by rw[ao a6];exact h.c24,by rw[ao a6];exact h.c25,by rw[ao a6];exact h.c26,by rw[ao a6];exact h.c27⟩
theorem WC.setOut (h:WC cs code inp m mc xc cc) (c:C) (o:Str):WC (cs.set 22 (c)) code inp { m with out:=o } mc c cc:=
 ⟨by simp[h.len],by rw[ao a6];exact h.c0,h.rl,fun k hk=>by rw[ao a6];exact h.rg k hk,by rw[ao a6];exact h.c17,by rw[ao a6];exact h.c18,by rw[ao a6];exact h.c19,by rw[ao a6];exact h.c20,by rw[ao a6];exact h.c21,jT (by rw[h.len];decide),by rw[ao a6];exact h.c23,by rw[ao a6];exact h.c24,by rw[ao a6];exact h.c25,by rw[ao a6];exact h.c26,by rw[ao a6];exact h.c27⟩
end
def kS (l:List Int):List C:=l.map fun n=>.d (.int .i64 n)
structure Wn (gr:Nat) (code:List Nat) (inp:Str) (m:M) (g:Nat→Nat) (ob:Obs):Prop where
 gen:g 13=gr
 obj:∃cs mi xc cnt,ob 13=some cs∧WC cs code inp m (.osl mi (g mi) 1 0 m.mem.length) xc (.osl 47 (g 47) 1 0 code.length)∧(mi=24∨mi=27)∧ob mi=some (iC m.mem)∧ob 47=some (kS cnt)∧cnt.length=code.length∧
  (xc=.osl 38 (g 38) 1 0 m.out.length∧ob 38=some (lH m.out))
end
end
section
attribute [local congr] Go.Am.ite_cc
open Go Go.Am Go.Asm Go.Mach
section
def FrW (g:Nat→Nat) (ob:Obs) (g':Nat→Nat) (ob':Obs):Prop:=∀i,i<3000→i≠13→i≠24→i≠27→i≠47→i≠38→g' i=g i∧ob' i=ob i
variable {gr:Nat}{code:List Nat}{inp:Str}{g g':Nat→Nat}{ob ob':Obs}
theorem Wn.cells{m m':M} (h:Wn gr code inp m g ob) {cs':List C} (hg:∀i,(i=13∨i=24∨i=27∨i=47∨i=38)→g' i=g i) (ho:∀i,(i=24∨i=27∨i=47∨i=38)→ob' i=ob i)
  (hc:ob' 13=some cs') (hm:m'.mem=m.mem) (hx:m'.out=m.out) (hr:∀cs mc xc cc,ob 13=some cs→WC cs code inp m mc xc cc→WC cs' code inp m' mc xc cc):Wn gr code inp m' g' ob':=by
 obtain⟨h1,cs,mi,xc,cnt,h2,h3,h4,h5,h6,h7,h8⟩:=h
 have hmi:g' mi=g mi∧ob' mi=ob mi:=⟨hg mi a6,ho mi a6⟩
 refine⟨by rw[hg 13 a8];exact h1,cs',mi,xc,cnt,hc,?_,h4,by rw[hmi.2,hm];exact h5,by rw[ho 47 a8];exact h6,h7,by rw[hg 38 a8,ho 38 a8,hx];exact h8⟩
 rw[hmi.1,hm,hg 47 a8]
 exact hr cs _ _ _ h2 h3
theorem Wn.same{m:M} (h:Wn gr code inp m g ob) (hg:∀i,(i=13∨i=24∨i=27∨i=47∨i=38)→g' i=g i) (ho:∀i,(i=13∨i=24∨i=27∨i=47∨i=38)→ob' i=ob i):Wn gr code inp m g' ob':=by
 obtain⟨cs,_,_,_,h2,_⟩:=id h.obj
 exact h.cells (cs':=cs) hg (fun i hi=>ho i a6) (by rw[ho 13 a8];exact h2) rfl rfl fun cs2 _ _ _ e r=>by rw[h2] at e;cases e;exact r
theorem Wn.done{m m':M}{cs cs':List C} (h:Wn gr code inp m g ob) (ho:ob 13=some cs) (hg':∀i,(i<3000∨i=38)→g' i=g i) (ho':∀i,(i≠13∧(i<3000∨i=38))→ob' i=ob i)
  (hc:ob' 13=some cs') (hm:m'.mem=m.mem) (hx:m'.out=m.out) (hr:∀mc xc cc,WC cs code inp m mc xc cc→WC cs' code inp m' mc xc cc):FrW g ob g' ob'∧Wn gr code inp m' g' ob':=
 ⟨fun i hi h13 _ _ _ _=>⟨hg' i (.inl hi),ho' i ⟨h13,.inl hi⟩⟩,h.cells (fun i hi=>hg' i a6) (fun i hi=>ho' i a6) hc hm hx fun cs2 mc xc cc e r=>by rw[ho] at e;cases e;exact hr mc xc cc r⟩
theorem Sf{m:M}{g:Nat→Nat}{ob:Obs} (h:Wn gr code inp m g ob) (a x:Nat) (ha:a<16) (hpc:m.pc≤4294967296000000) :
  jZ Tryz.prog 207 [.one (.ptr 13 gr 0),iv .i64 a,iv .u32 x] g ob (fun _ g' ob'=>FrW g ob g' ob'∧Wn gr code inp (m.set a x) g' ob'):=by
 refine hdF 4000 Tryz.func207 rfl [] ?_
 obtain⟨hg,cs,mi,xc,cnt,ho,hr,-⟩:=id h
 have hws:=ab (k:=m.pc) a6
 have hl:=hr.len
 have ha0:(0:Int)≤(a:Int):=a6
 have hset:(cs.set (1+a) (.d (.int .u32 (x:Nat))))[0]? = some (.d (.int .i64 (m.pc:Nat))):=by rw[ao a6];exact hr.c0
 simp only[go_sem,hg,ho,ha0,hset,hws]
 refine⟨a6,a6,?_⟩
 exact⟨by simp only[D0];omega,fT (.inr rfl) (h.done ho (fun i hi=>by (try simp only[upd]);repeat (rw[if_neg (by omega)]);try rfl) (fun i hi=>by (try simp only[upd]);repeat (rw[if_neg (by omega)]);try rfl) (by simp[upd] <;> rfl) rfl rfl fun _ _ _ hr=>(hr.setReg ha x).setPc (m.pc+1))⟩
end
theorem FrW.from {g g':Nat→Nat}{ob ob1 ob':Obs}{P:Prop} (h:FrW g ob1 g' ob'∧P) (hfr:∀i,i≠13→i≠47→ob1 i=ob i):FrW g ob g' ob'∧P:=
 ⟨fun i a b c d e f=>⟨(h.1 i a b c d e f).1,(h.1 i a b c d e f).2.trans (hfr i b e)⟩,h.2⟩
theorem NV {gr:Nat}{code:List Nat}{inp:Str}{m:M}{g:Nat→Nat}{ob:Obs} (h:Wn gr code inp m g ob) (hcw:∀x∈code,x<4294967296) (hfo:∀x∈code,okW x=true∧(x/16777216=1∨x/16777216=16∨x/16777216=17∨x/16777216=24∨x/16777216=26)) (hg9:Mach.Good m) (hml:m.mem.length≤1000000) (hcl:code.length≤1000000) (hst:m.steps<1000000000000) (hrd:m.rd≤1000000000000) (hf:m.fin=0) :
  jZ Tryz.prog 143 [.one (.ptr 13 gr 0)] g ob (fun _ g' ob'=>FrW g ob g' ob'∧Wn gr code inp (lX okI code inp m) g' ob'):=by
 refine hdF 3000 Tryz.func143 rfl [] ?_
 obtain⟨hg,cs,mi,xc,cnt,ho,hr,hmi,hmo,hco,hcn,hmore⟩:=id h
 have hl:=hr.len
 have hp0:¬(m.pc:Int)<0:=a6
 have hp00:(0:Int)≤(m.pc:Int):=a6
 have hws:=ab (k:=m.steps) a6
 simp only[go_sem]
 refine dy b9 ?_
 by_cases hlt:m.pc<code.length
 case neg=>
  have hle:(code.length:Int)≤(m.pc:Int):=a6
  rw[show lX okI code inp m = { m with fin:=7 } by unfold lX;rw[D6 a6]]
  simp only[go_sem,hg,ho,hr.c0,hr.c23,hp0,j4,hle]
  exact⟨a6,fT (.inl rfl) (h.done ho (fun i hi=>by (try simp only[upd]);repeat (rw[if_neg (by omega)]);try rfl) (fun i hi=>by (try simp only[upd]);repeat (rw[if_neg (by omega)]);try rfl) (by simp[upd] <;> rfl) rfl rfl fun _ _ _ hr=>hr.setFin 7)⟩
 have hle:¬(code.length:Int)≤(m.pc:Int):=a6
 obtain⟨w,hw⟩:=getq hlt
 have hwlt:=hcw w (l0 hw)
 simp only[go_sem,hg,ho,hr.c0,hr.c23,hr.c20,hp0,j4,hle,hws]
 refine⟨a6,?_⟩
 refine dy b9 ?_
 have hr1:=hr.setSteps (m.steps+1)
 generalize hcs1:cs.set 20 (.d (.int .i64 (m.steps+1:Nat)))=cs1 at hr1 ⊢
 have hl1:=hr1.len
 obtain⟨n0,hn0⟩:=getq (l:=cnt) (k:=m.pc) a6
 have hcg:(kS cnt)[m.pc]? = some (.d (.int .i64 n0)):=by unfold kS;rw[x9,hn0];rfl
 have hcl2:(kS cnt).length=code.length:=by unfold kS;rw[j4,hcn]
 have hc0:=hr1.c0
 have hc27:=hr1.c27
 simp only[go_sem,hg,hc0,hc27,hco,hp00,C0,M0,hcg]
 refine⟨hlt,hlt,a6,?_⟩
 have h1:Wn gr code inp { m with steps:=m.steps+1 } g (upd (upd ob 13 (some cs1)) 47 (some ((kS cnt).set m.pc (.d (.int .i64 (IntKind.i64.wrap (n0+1))))))):=
  ⟨hg,cs1,mi,xc,cnt.set m.pc (IntKind.i64.wrap (n0+1)),by simp[upd],hr1,hmi,by rcases hmi with rfl|rfl <;> simpa[upd] using hmo,by simp[upd,kS,U1],by rw[D0,hcn],by simpa[upd] using hmore⟩
 have hfr:∀i,i≠13→i≠47→(upd (upd ob 13 (some cs1)) 47 (some ((kS cnt).set m.pc (.d (.int .i64 (IntKind.i64.wrap (n0+1))))))) i=ob i:=fun i a b=>by simp only[upd];rw[if_neg b,if_neg a]
 have ho1:(upd (upd ob 13 (some cs1)) 47 (some ((kS cnt).set m.pc (.d (.int .i64 (IntKind.i64.wrap (n0+1))))))) 13=some cs1:=by simp[upd]
 have hmo1:(upd (upd ob 13 (some cs1)) 47 (some ((kS cnt).set m.pc (.d (.int .i64 (IntKind.i64.wrap (n0+1))))))) mi=some (iC m.mem):=by rcases hmi with rfl|rfl <;> simpa[upd] using hmo
 have hmore1:xc=.osl 38 (g 38) 1 0 m.out.length∧(upd (upd ob 13 (some cs1)) 47 (some ((kS cnt).set m.pc (.d (.int .i64 (IntKind.i64.wrap (n0+1))))))) 38=some (lH m.out):=by simpa[upd] using hmore
 obtain⟨cnt1,hco1,hcn1⟩:∃cnt1,(upd (upd ob 13 (some cs1)) 47 (some ((kS cnt).set m.pc (.d (.int .i64 (IntKind.i64.wrap (n0+1))))))) 47=some (kS cnt1)∧cnt1.length=code.length:=⟨cnt.set m.pc (IntKind.i64.wrap (n0+1)),by simp[upd,kS,U1],by rw[D0,hcn]⟩
 generalize upd (upd ob 13 (some cs1)) 47 (some ((kS cnt).set m.pc (.d (.int .i64 (IntKind.i64.wrap (n0+1))))))=ob1 at h1 hfr ho1 hmo1 hmore1 hco1 ⊢
 have hg1:Mach.Good { m with steps:=m.steps+1 }:=⟨hg9.len,hg9.reg,hg9.mem,by have:=hg9.pc;show m.pc≤4294967296+(m.steps+1);omega,hg9.out,hg9.fin⟩
 have hs:lX okI code inp m=if okW w=true then doM code inp { m with steps:=m.steps+1 } (w/16777216) (w/1048576%16) (w/65536%16) (w%65536) else { m with steps:=m.steps+1,fin:=6 }:=by
  unfold lX okW;rw[hw]
 rw[hs]
 have hci:nd w=nd w:=rfl
 conv at hci=>rhs;unfold nd
 have hc23:=hr1.c23
 have hc24:=hr1.c24
 clear hcs1 hs hcg hco hcn hn0 hcl2 hr hmore hmo ho
 refine fg aP mixed [3002] [([0],[0],[],false),([56],[0],[],false),([57],[0],[],false),([58],[0],[],false),([0],[0],[],false),([60],[0],[],false),([61],[0],[],false),([62],[0],[],false),([63],[0],[],false),([59,64],[0],[],false),([65],[0],[],false),([],[],[0],false),([2,66],[],[],true)] 1 b9 rfl a8 ?_
 simp only[go_sem]
 cases hR:okW w
 ·rw[(hfo w (l0 hw)).1] at hR
  cases hR
 ·rw[hR,if_pos rfl] at hci
  rw[if_pos rfl]
  obtain⟨p1,p2,p3⟩:=Dz (show okI (w/16777216) (w/1048576%16) (w/65536%16) (w%65536)=true from hR)
  have ha:w/1048576%16<16:=a6
  have hb:w/65536%16<16:=a6
  have hc:w%65536<65536:=a6
  have hop:=(hfo w (l0 hw)).2
  generalize w/16777216=op at hci p1 p2 p3 hop ⊢
  generalize w/1048576%16=a at hci p3 ha ⊢
  generalize w/65536%16=b at hci p3 hb ⊢
  generalize w%65536=c at hci p3 hc ⊢
  iterate 9 (apply aE;· (intro fa ga oa K' hK;simp only[go_sem,hg,ho1,hc0,hc23] at hK ⊢;exact hK))
  iterate 2 (apply aE;· (intro fa ga oa K' hK;simp only[go_sem,hp00,hw,y8,hci] at hK ⊢;exact hK))
  (apply cq;· (intro fa ga oa K' hK;simp only[go_sem] at hK ⊢;exact hK))
  apply cw
  intro K' hK'
  simp only[go_sem]
  refine hK' _ ?_
  clear hK' K'
  simp only[go_sem]
  refine dy b9 ?_
  simp only[go_sem,hg,ho1,hc0,hc24,hp00,hw,y8,hR]
  refine dy b9 ?_
  have ra:=hr1.rg a ha
  have ha0:(0:Int)≤(a:Int):=a6
  have rb:=hr1.rg b hb
  have hb0:(0:Int)≤(b:Int):=a6
  have hpc:m.pc≤4294967296000000:=by have:=hg9.pc;omega
  have rlt:=hg9.r a
  have rblt:=hg9.r b
  have hset:=fun g2 ob2 (h2:Wn gr code inp { m with steps:=m.steps+1 } g2 ob2) (x:Nat)=>Sf h2 a x ha hpc
  have hwc:IntKind.u32.wrap ((c:Nat):Int)=((c:Nat):Int):=iw a6
  change cs1[1+a]? = some (.d (.int .u32 (m.r a:Nat))) at ra
  change cs1[1+b]? = some (.d (.int .u32 (m.r b:Nat))) at rb
  have fin:∀{g2:Nat→Nat}{ob2:Obs}{m':M}{g':Nat→Nat}{ob':Obs},(∀i,i<3000→g2 i=g i)→(∀i,i<3000→ob2 i=ob1 i)→FrW g2 ob2 g' ob'→Wn gr code inp m' g' ob'→FrW g ob g' ob'∧Wn gr code inp m' g' ob':=fun e1 e2 f1 f2=>
   FrW.from (ob1:=ob1) ⟨fun i hi h13 h24 h27 h47 h38=>by have:=f1 i hi h13 h24 h27 h47 h38;rw[e1 i hi,e2 i hi] at this;exact this,f2⟩ hfr
  by_cases o1:op=1
  ·subst o1
   rw[show doM code inp { m with steps:=m.steps+1 } 1 a b c=({ m with steps:=m.steps+1 }:M).set a c from rfl]
   simp only[go_sem,hg,ho1,ra,ha0,hwc]
   refine⟨a6,?_⟩
   refine eN rfl (by simp only[go_sem];exact hset _ _ (h1.same (fun i hi=>by (try simp only[upd]);repeat (rw[if_neg (by omega)]);try rfl) (fun i hi=>by (try simp only[upd]);repeat (rw[if_neg (by omega)]);try rfl)) c) ?_
   exact WI
  by_cases o26:op=26
  ·subst o26
   rw[show doM code inp { m with steps:=m.steps+1 } 26 a b c = { m with steps:=m.steps+1,fin:=1 } from rfl]
   simp only[go_sem,hg,ho1,ra,ha0]
   exact⟨a6,a6,fT (.inr rfl) (FrW.from (h1.done (m':={ m with steps:=m.steps+1,fin:=1 }) ho1 (fun i hi=>by (try simp only[upd]);repeat (rw[if_neg (by omega)]);try rfl) (fun i hi=>by (try simp only[upd]);repeat (rw[if_neg (by omega)]);try rfl) (by simp[upd] <;> rfl) rfl rfl fun _ _ _ hr=>hr.setFin 1) hfr)⟩
  by_cases o16:op=16
  ·subst o16
   have hc17:=hr1.c17
   have hF:=Kl m.mem (m.r b) c hml hc
   have hmi2:mi≠13∧mi≠3002:=a6
   simp only[go_sem,hg,ho1,ra,ha0]
   refine⟨a6,?_⟩
   simp only[go_sem,hg,ho1,hc17]
   refine df aP mixed b9 ?_
   simp only[go_sem,hg,ho1,rb,hb0]
   refine⟨a6,?_⟩
   have hfz:∀{s:St} (x y:D),s.gen mi=g mi→s.obj mi=some (iC m.mem)→da s [.one (.osl mi (g mi) 1 0 m.mem.length),.one (.d x),.one (.d y)] [.one (.d (kw m.mem)),.one (.d (fF x)),.one (.d (fF y))]:=fun x y e1 e2=>
    NZ (wX (se (cells:=iC m.mem) (off:=0) e1 e2 m.mem (fun n=>.int .u32 (n:Nat)) (fun _=>rfl) rfl (fun j a h=>by rw[C0];unfold iC;rw[x9,h];rfl) (by unfold iC;rw[j4];omega))) (jb _) (jb _)
   have e1:∀(x:Nat),(upd g 3002 x) mi=g mi:=fun x=>by simp only[upd];rw[if_neg hmi2.2]
   cases hx:m.mem[(m.r b+c)%4294967296]? with
   |none=>
     rw[hx] at hF
     unfold GS at hF
     rw[show doM code inp { m with steps:=m.steps+1 } 16 a b c = { m with steps:=m.steps+1,fin:=8 } by show (match m.mem[(m.r b+c)%4294967296]? with|some x=>_|none=>_)=_;rw[hx]]
     refine ba rfl hF (by simp only[go_sem];exact hfz _ _ (e1 _) (by simp only[upd];(repeat rw[if_neg hmi2.2]);exact hmo1)) rfl ?_
     simp only[go_sem,hg,ho1]
     exact⟨a6,fT (.inl rfl) (FrW.from (h1.done (m':={ m with steps:=m.steps+1,fin:=8 }) ho1 (fun i hi=>by (try simp only[upd]);repeat (rw[if_neg (by omega)]);try rfl) (fun i hi=>by (try simp only[upd]);repeat (rw[if_neg (by omega)]);try rfl) (by simp[upd] <;> rfl) rfl rfl fun _ _ _ hr=>hr.setFin 8) hfr)⟩
   |some x=>
     rw[hx] at hF
     unfold GS at hF
     rw[show doM code inp { m with steps:=m.steps+1 } 16 a b c=({ m with steps:=m.steps+1 }:M).set a x by show (match m.mem[(m.r b+c)%4294967296]? with|some x=>_|none=>_)=_;rw[hx]]
     refine ba rfl hF (by simp only[go_sem];exact hfz _ _ (e1 _) (by simp only[upd];(repeat rw[if_neg hmi2.2]);exact hmo1)) rfl ?_
     simp only[go_sem,hg,ho1]
     refine eN rfl (by simp only[go_sem];exact hset _ _ (h1.same (fun i hi=>by (try simp only[upd]);repeat (rw[if_neg (by omega)]);try rfl) (fun i hi=>by (try simp only[upd]);repeat (rw[if_neg (by omega)]);try rfl)) x) ?_
     exact WI
  have hwpc:=ab (k:=m.pc) a6
  by_cases o17:op=17
  ·subst o17
   have hc17:=hr1.c17
   have hmi2:mi≠13∧mi≠3002∧mi≠47∧mi≠38:=a6
   have e2:=Cf (m.r b) c
   have hat:(m.r b+c)%4294967296<4294967296:=U8 _ a8
   rw[show doM code inp { m with steps:=m.steps+1 } 17 a b c=(if (m.r b+c)%4294967296<m.mem.length then({ m with steps:=m.steps+1,mem:=m.mem.set ((m.r b+c)%4294967296) (m.r a),pc:=m.pc+1 }:M) else { m with steps:=m.steps+1,fin:=8 }) from rfl]
   generalize (m.r b+c)%4294967296=at' at e2 hat ⊢
   have e3:=w64 (n:=at') a6
   have e4:=w64 (n:=m.mem.length) a6
   have hat0:(0:Int)≤(at':Int):=a6
   simp only[go_sem,hg,ho1,ra,ha0]
   refine⟨a6,?_⟩
   refine dy b9 ?_
   by_cases hz:at'<m.mem.length
   ·have hzi:¬(m.mem.length:Int)≤(at':Int):=a6
    have hwl:(iC m.mem).length=m.mem.length:=by unfold iC;rw[j4]
    rw[if_pos hz]
    simp only[go_sem,hg,ho1,rb,hb0,hwc,e2,hc17,e3,e4,hzi,hat0,hmo1,hmi2.2.1,A3 hmi2.1,C0,M0,hc0,hwpc]
    refine⟨a6,hz,a6,?_⟩
    refine⟨a6,fT (.inr rfl) (FrW.from (ob1:=ob1) ⟨fun i hi h13 h24 h27 h47 h38=>⟨(fun i hi=>by (try simp only[upd]);repeat (rw[if_neg (by omega)]);try rfl) i hi,by simp only[upd];(repeat rw[if_neg (by omega)])⟩,⟨by simp[upd,hg],cs1.set 0 (.d (.int .i64 (m.pc+1:Nat))),mi,xc,cnt1,by simp[upd],?_,hmi,?_,?_,hcn1,?_⟩⟩ hfr)⟩
    ·have hp:=hr1.setPc (m.pc+1)
     simp only[upd,D0]
     (repeat rw[if_neg (by omega)])
     exact⟨hp.len,hp.c0,hp.rl,hp.rg,hp.c17,hp.c18,hp.c19,hp.c20,hp.c21,hp.c22,hp.c23,hp.c24,hp.c25,hp.c26,hp.c27⟩
    ·simp only[upd];(repeat rw[if_neg (by omega)]);simp[iC,U1]
    ·simp only[upd];(repeat rw[if_neg (by omega)]);exact hco1
    ·simp only[upd];(repeat rw[if_neg (by omega)]);exact hmore1
   ·have hzi:(m.mem.length:Int)≤(at':Int):=a6
    rw[if_neg hz]
    simp only[go_sem,hg,ho1,rb,hb0,hwc,e2,hc17,e3,e4,hzi,hmi2.2.1,hmo1]
    exact⟨a6,a6,fT (.inl rfl) (FrW.from (h1.done (m':={ m with steps:=m.steps+1,fin:=8 }) ho1 (fun i hi=>by (try simp only[upd]);repeat (rw[if_neg (by omega)]);try rfl) (fun i hi=>by (try simp only[upd]);repeat (rw[if_neg (by omega)]);try rfl) (by simp[upd] <;> rfl) rfl rfl fun _ _ _ hr=>hr.setFin 8) hfr)⟩
  by_cases o24:op=24
  ·subst o24
   have hc22:=hr1.c22
   have hol:=hg9.out
   rw[show doM code inp { m with steps:=m.steps+1 } 24 a b c=(if 65536≤m.out.length then({ m with steps:=m.steps+1,fin:=4 }:M) else { m with steps:=m.steps+1,out:=m.out++[UInt8.ofNat (m.r a)],pc:=m.pc+1 }) from rfl]
   have e1:((m.r a:Nat):Int).tmod 256=((m.r a%256:Nat):Int):=rfl
   have e2:IntKind.u32.wrap ((m.r a%256:Nat):Int)=((m.r a%256:Nat):Int):=iw a6
   have e3:IntKind.u8.wrap ((m.r a%256:Nat):Int)=((m.r a%256:Nat):Int):=by rw[IntKind.wrap_u8];omega
   have hb8:(UInt8.ofNat (m.r a)).toNat=m.r a%256:=by rw[O2]
   obtain⟨rfl,x3⟩:=hmore1
   have hbl:(lH m.out).length=m.out.length:=by unfold lH;rw[j4]
   by_cases hfull:65536≤m.out.length
   ·have hfi:(65536:Int)≤(m.out.length:Int):=a6
    rw[if_pos hfull]
    simp only[go_sem,hg,ho1,ra,ha0,hc22,x3,hfi]
    exact⟨a6,a6,fT (.inl rfl) (FrW.from (h1.done (m':={ m with steps:=m.steps+1,fin:=4 }) ho1 (fun i hi=>by (try simp only[upd]);repeat (rw[if_neg (by omega)]);try rfl) (fun i hi=>by (try simp only[upd]);repeat (rw[if_neg (by omega)]);try rfl) (by simp[upd] <;> rfl) rfl rfl fun _ _ _ hr=>hr.setFin 4) hfr)⟩
   ·have hfi:¬(65536:Int)≤(m.out.length:Int):=a6
    rw[if_neg hfull]
    have h220:∀x,(cs1.set 22 x)[0]? = some (.d (.int .i64 (m.pc:Nat))):=fun x=>by rw[ao a6];exact hc0
    simp only[go_sem,hg,ho1,ra,ha0,hc22,x3,hfi,e1,e2,e3,aH,h220,hwpc]
    have hmi2:mi≠13∧mi≠3002∧mi≠47∧mi≠38:=a6
    refine⟨a6,a6,⟨a8,a6⟩,a6,by simp only[D0];omega,fT (.inr rfl) (FrW.from (ob1:=ob1) ⟨fun i hi h13 h24 h27 h47 h38=>⟨by simp only[upd];(repeat rw[if_neg (by omega)]),by simp only[upd];(repeat rw[if_neg (by omega)])⟩,⟨by simp[upd,hg],(cs1.set 22 (.osl 38 (nxC (apC 5 (g 38) 0) (g 38)) 1 0 (m.out.length+1))).set 0 (.d (.int .i64 (m.pc+1:Nat))),mi,(.osl 38 (nxC (apC 5 (g 38) 0) (g 38)) 1 0 (m.out.length+1)),cnt1,by simp[upd],?_,hmi,?_,?_,hcn1,?_,?_⟩⟩ hfr)⟩
    ·have hp:=(hr1.setOut (.osl 38 (nxC (apC 5 (g 38) 0) (g 38)) 1 0 (m.out.length+1)) (m.out++[UInt8.ofNat (m.r a)])).setPc (m.pc+1)
     simp only[upd]
     (repeat rw[if_neg (by omega)])
     exact hp
    ·simp only[upd];(repeat rw[if_neg (by omega)]);exact hmo1
    ·simp only[upd];(repeat rw[if_neg (by omega)]);exact hco1
    ·simp[upd]
    ·simp only[upd,B6]
     rw[if_neg a8]
     simp[lH,hb8]
     exact l7 a7
  exfalso
  omega
def UK (l:List Int):D:=.sl (l.map fun n=>[.int .i64 n])
theorem WC.state {cs cs':List C}{code:List Nat}{inp:Str}{m:M}{mc xc cc:C} (h:WC cs code inp m mc xc cc) (hl:cs'.length=28) (he:∀i,i<22→i≠19→cs'[i]? = cs[i]?) {o:Str} (ho:cs'[19]? = some (.d (.str o))):cs'.take 22=stC { m with out:=o } mc:=by
 have hS:=Ch (m:={ m with out:=o }) h.rl mc
 refine N0 fun i=>?_
 rw[H0]
 by_cases hi:i<22
 ·rw[if_pos hi]
  unfold stC
  by_cases h0:i=0
  ·subst h0;exact(he 0 a6 a6).trans h.c0
  by_cases h1:i≤16
  ·obtain⟨a,rfl⟩:∃a,i=a+1:=⟨i-1,a6⟩
   rw[he (a+1) a6 a6,show a+1=1+a by omega,h.rg a a6]
   rw[show 1+a=a+1 by omega,G3 (by simp[h.rl];omega),l5,s6,Q9,x9]
   have:a<m.reg.length:=by rw[h.rl];omega
   rw[w9 this]
   unfold M.r
   rw[C9,w9 this]
   rfl
  ·obtain⟨k,rfl⟩:∃k,i=17+k:=⟨i-17,a6⟩
   rw[E8 (by simp[h.rl])]
   simp only[j4,j6,h.rl]
   rw[show 17+k-(16+1)=k by omega]
   obtain rfl|rfl|rfl|rfl|rfl:k=0∨k=1∨k=2∨k=3∨k=4:=a6
   ·exact(he 17 a6 a6).trans h.c17
   ·exact(he 18 a6 a6).trans h.c18
   ·exact ho
   ·exact(he 20 a6 a6).trans h.c20
   ·exact(he 21 a6 a6).trans h.c21
 ·rw[if_neg hi,D6 a6]
theorem AO (l:List Nat):List.map C.d (l.map fun x=>[D.int .u32 (x:Nat)]).flatten=iC l:=by
 unfold iC
 induction l with
 |nil=>rfl
 |cons a l ih=>simp only[l5,D1,A2,z8,ih]
theorem GP (n:Nat):(List.replicate n [C.d (.int .i64 0)]).flatten=kS (List.replicate n 0):=by
 unfold kS
 induction n with
 |zero=>rfl
 |succ n ih=>simp only[D8,D1,l5,A2,z8,ih]
theorem NW (code:List Nat) (d:Nat) (inp:Str) (fuel:Nat) (hl:code.length≤1000000) (hcw:∀x∈code,x<4294967296) (hfo:∀x∈code,okW x=true∧(x/16777216=1∨x/16777216=16∨x/16777216=17∨x/16777216=24∨x/16777216=26)) (hd:d≤32768) (hfu:fuel≤500000000000) :
  aq Tryz.prog 92 [eQ (code,d),sv inp,stV (Mach.start d),iv .i64 fuel] (fun r=>∃cnt:List Int,r=.tup [stV (runM okI code inp fuel (Mach.start d)),.one (.d (UK cnt))]):=by
 refine hdR Tryz.func92 rfl [.cell 8 115,.tmp 9] fun g=>?_
 have hC:=NY code d hl hcw
 have hSl:stV (Mach.start d)=.agg [.d (.int .i64 0),.d (.int .u32 0),.d (.int .u32 0),.d (.int .u32 0),.d (.int .u32 0),.d (.int .u32 0),.d (.int .u32 0),.d (.int .u32 0),.d (.int .u32 0),.d (.int .u32 0),.d (.int .u32 0),.d (.int .u32 0),.d (.int .u32 0),.d (.int .u32 0),.d (.int .u32 0),.d (.int .u32 0),.d (.int .u32 0),.d (kw (List.replicate d 0)),.d (.int .i64 0),.d (.str []),.d (.int .i64 0),.d (.int .i64 0)]:=rfl
 rw[hSl]
 have hWf:=AO (List.replicate d 0)
 have hW1:∀e∈((List.replicate d 0).map fun x=>[D.int .u32 ((x:Nat):Int)]),e.length=1:=fun e he=>by obtain⟨x,_,rfl⟩:=F7.1 he;rfl
 have hWl:((List.replicate d 0).map fun x=>[D.int .u32 ((x:Nat):Int)]).length=d:=a7
 have hmem:(Mach.start d).mem=List.replicate d 0:=rfl
 have hml:(List.replicate d 0).length=d:=I6
 unfold kw
 generalize ((List.replicate d 0).map fun x=>[D.int .u32 ((x:Nat):Int)])=W at hWf hW1 hWl ⊢
 have hc0:(0:Int)≤(code.length:Int):=a6
 unfold eQ at hC ⊢
 simp only at hC ⊢
 generalize hI:code.map nd=I at hC
 generalize hO:(code.map fun w=>[D.bool (okW w)])=O at hC
 unfold eA at hC ⊢
 simp only[go_sem]
 refine bG rfl (by simp only[go_sem];exact hC) ?_
 rintro _ rfl
 simp only[go_sem]
 refine fg aP mixed [24,12] [([6],[0,1],[],false),([20],[0,1],[],false),([6],[0,1],[],false),([22],[0,1],[],false),([],[1],[0],false),([6],[0,1],[],false),([25],[0,1],[],false),([24,26],[1],[0],false),([6],[0,1],[],false),([28],[0,1],[],false),([6],[0,1],[],false),([30],[0,1],[],false),([6],[0,1],[],false),([32],[0,1],[],false),([21,23,27,29,31,33],[1],[],false),([],[0],[1],false),([12,34],[],[],true)] 2 b9 rfl a8 ?_
 simp only[go_sem]
 iterate 4 (apply aE;· (intro fa ga oa K' hK;simp only[go_sem] at hK ⊢;exact hK))
 (apply cq;· (intro fa ga oa K' hK;simp only[go_sem,aH] at hK ⊢;exact hK))
 iterate 2 (apply aE;· (intro fa ga oa K' hK;simp only[go_sem] at hK ⊢;exact hK))
 (apply cq;· (intro fa ga oa K' hK;simp only[go_sem,aH] at hK ⊢;exact⟨hW1,⟨a8,a6⟩,hK⟩))
 iterate 7 (apply aE;· (intro fa ga oa K' hK;simp only[go_sem] at hK ⊢;exact hK))
 (apply cq;· (intro fa ga oa K' hK;simp only[go_sem] at hK ⊢;exact hK))
 apply cw
 intro K' hK'
 simp only[go_sem]
 refine hK' _ ?_
 clear hK' K'
 simp only[go_sem]
 refine fg aP mixed [38,47,13] [([12],[0,1,2],[],false),([6],[1,2],[],false),([36],[1,2],[],false),([37],[1,2],[0],false),([10],[0,1,2],[],false),([11],[0,1,2],[],false),([4],[0,1,2],[],false),([41],[0,1,2],[],false),([1],[0,1,2],[],false),([4],[0,2],[],false),([44],[0,2],[],false),([45],[0,2],[],false),([46],[0,2],[1],false),([35,38,39,40,42,43,47],[2],[],false),([],[0,1],[2],false),([13,48],[],[],true)] 3 b9 rfl a8 ?_
 simp only[go_sem]
 iterate 3 (apply aE;· (intro fa ga oa K' hK;simp only[go_sem] at hK ⊢;exact hK))
 (apply cq;· (intro fa ga oa K' hK;simp only[go_sem,aH] at hK ⊢;exact hK))
 iterate 8 (apply aE;· (intro fa ga oa K' hK;simp only[go_sem,j4] at hK ⊢;exact hK))
 (apply cq;· (intro fa ga oa K' hK;simp only[go_sem,hc0] at hK ⊢;exact⟨j8 _,a6,a6,hK⟩))
 (apply aE;· (intro fa ga oa K' hK;simp only[go_sem] at hK ⊢;exact hK))
 (apply cq;· (intro fa ga oa K' hK;simp only[go_sem] at hK ⊢;exact hK))
 apply cw
 intro K' hK'
 simp only[go_sem]
 refine hK' _ ?_
 clear hK' K'
 simp only[go_sem]
 refine ff (fun n st=>∃(k:Nat) (m:M),n+k=fuel∧runM okI code inp fuel (Mach.start d)=runM okI code inp n m∧Mach.Good m∧m.mem.length=d∧m.steps≤k∧m.rd≤k∧Wn (nxC 230 (g 13)) code inp m st.gen st.obj∧st.f 3=iv .i64 fuel∧st.f 14=iv .i64 k∧st.f 13=.one (.ptr 13 (nxC 230 (g 13)) 0)∧st.f 8=.one (.ptr 8 (nxC 116 (g 8)) 0)∧st.gen 8=nxC 116 (g 8)∧∃Z,st.obj 8=some Z∧Z.length=22) fuel ?_ ?_
 ·refine⟨0,Mach.start d,rfl,rfl,oX d,hml,M1 _,M1 _,⟨?_,_,24,_,List.replicate code.length 0,by simp only[upd,B6] <;> rfl,⟨rfl,rfl,rfl,fun a ha=>?_,?_,rfl,rfl,rfl,rfl,rfl,?_,?_,rfl,rfl,?_⟩,.inl rfl,?_,?_,I6,?_,?_⟩,?_⟩
  ·simp only[upd,B6]
  ·obtain rfl|rfl|rfl|rfl|rfl|rfl|rfl|rfl|rfl|rfl|rfl|rfl|rfl|rfl|rfl|rfl:a=0∨a=1∨a=2∨a=3∨a=4∨a=5∨a=6∨a=7∨a=8∨a=9∨a=10∨a=11∨a=12∨a=13∨a=14∨a=15:=a6
   all_goals rfl
  ·rw[show (Mach.start d).mem.length=W.length by rw[hmem,hml,hWl]];rfl
  ·rw[hI];rfl
  ·rw[hO];rfl
  ·rfl
  ·rw[hmem,←hWf];rfl
  ·rw[←GP];rfl
  ·rfl
  ·rfl
  ·simp only[go_sem]
   exact⟨_,rfl,rfl⟩
 rintro n f g' ob ⟨k,m,hn,hrun,hg9,hmm,hst,hrd,hW,q3,q14,q13,q8,g8,Z,o8,hZ⟩
 simp only at hW q3 q14 q13 q8 g8 o8
 obtain⟨hg13,cs,mi,xc,cnt,ho,hr,hmi,hmo,hco,hcn,rfl,hxo⟩:=id hW
 have hws:=ab (k:=k) a6
 by_cases hgo:k<fuel∧m.fin=0
 ·obtain⟨hlt,hf⟩:=hgo
  have hlti:(k:Int)<(fuel:Int):=a6
  have hfi:(m.fin:Int)=0:=a6
  simp only[go_sem,q3,q14,q13,hlti,hg13,ho,hr.c21,hfi]
  refine eN rfl (by simp only[go_sem,q13];exact NV hW hcw hfo hg9 a6 hl a6 a6 hf) ?_
  rintro r g2 ob2 ⟨f1,f2⟩
  obtain⟨n1,n2,n3⟩:=DK (okI:=okI) (code:=code) (inp:=inp) m
  simp only[go_sem,q14,hws]
  refine eU (n-1) a6 ⟨k+1,lX okI code inp m,a6,?_,vK hg9 hcw,a6,a6,a6,f2,?_⟩
  ·rw[hrun,show n=(n-1)+1 by omega,DJ hf];rfl
  simp only[go_sem,q3,q13,q8]
  have h8:=f1 8 a8 a8 a8 a8 a8 a8
  exact⟨h8.1.trans g8,Z,h8.2.trans o8,hZ⟩
 ·have hend:runM okI code inp fuel (Mach.start d)=m:=by
   rw[hrun]
   by_cases hf:m.fin=0
   ·rw[show n=0 by omega];rfl
   ·exact GX hf n
  rw[hend]
  have hfin:(¬(k:Int)<(fuel:Int))∨((k:Int)<(fuel:Int)∧¬(m.fin:Int)=0):=a6
  have hu:u8s (List.take m.out.length (lH m.out))=some (m.out.map fun b=>((b.toNat:Nat):Int)):=by rw[l7 (by simp[lH])];exact qI _
  have hcl:=hr.len
  have hbl:(lH m.out).length=m.out.length:=by simp[lH]
  have hb:(List.map (fun n:Int=>UInt8.ofNat n.toNat) (List.map (fun b:UInt8=>((b.toNat:Nat):Int)) m.out))=m.out:=by
   rw[Q9]
   conv=>rhs;rw[←List.map_id m.out]
   exact List.map_congr_left fun b _=>by simp
  have hL:=hr.state (cs':=cs.set 19 (C.d (D.str m.out))) (o:=m.out) (by rw[D0];exact hcl) (fun i hi h19=>ao a6) (jT a6)
  have hc27:(cs.set 19 (C.d (D.str m.out)))[27]? = some (.osl 47 (g' 47) 1 0 code.length):=(ao a6).trans hr.c27
  have hSL:=Ch (m:={ m with out:=m.out }) hr.rl (.osl mi (g' mi) 1 0 m.mem.length)
  have hT:(stC { m with out:=m.out } (.osl mi (g' mi) 1 0 m.mem.length)).take 22=stC { m with out:=m.out } (.osl mi (g' mi) 1 0 m.mem.length):=l7 a6
  rcases hfin with hlti|⟨hlti,hfi⟩
  case' inl=>simp only[go_sem,q3,q14,q13,hlti,hg13,ho,hr.c22,hxo,M0,C5,hu,hb]
  case' inr=>simp only[go_sem,q3,q14,q13,hlti,hg13,ho,hr.c21,hfi,hr.c22,hxo,M0,C5,hu,hb]
  all_goals
   refine⟨a6,a6,?_⟩
   refine fg aP mixed [8] [([13],[],[],false),([66],[],[],false),([13],[0],[],false),([68],[0],[],false),([8,67],[],[0],false),([69],[],[],true)] 1 b9 rfl a8 ?_
   simp only[go_sem]
   (apply aE;· (intro fa ga oa K' hK;simp only[go_sem,q13,hg13] at hK ⊢;exact hK))
   (apply aE;· (intro fa ga oa K' hK;simp only[go_sem,hg13,C5,hL] at hK ⊢;exact⟨by rw[D0];omega,hK⟩))
   (apply aE;· (intro fa ga oa K' hK;simp only[go_sem,q13,hg13] at hK ⊢;exact hK))
   (apply aE;· (intro fa ga oa K' hK;simp only[go_sem,hg13,hc27] at hK ⊢;exact hK))
   (apply iI;(focus simp);(focus (intro fa ga oa K' hK;simp only[go_sem,q8,g8,o8,hSL] at hK ⊢;exact⟨a6,hK⟩)))
   apply cw
   intro K' hK'
   simp only[go_sem]
   refine hK' _ ?_
   clear hK' K'
   rw[nB (by rw[hSL];exact hZ)]
   simp only[go_sem,q8,g8,hT,hSL]
   refine⟨_,⟨_,⟨_,_,rfl,nA (m:=m) ?_ rfl,_,_,rfl,wX ?_,rfl⟩,rfl⟩,cnt,rfl⟩
   ·refine tL rfl ?_ rfl
    rcases hmi with rfl|rfl <;> (simp only[upd];(repeat rw[if_neg (by decide)]);exact hmo)
   ·refine se (cells:=kS cnt) (off:=0) rfl ?_ cnt (fun n=>.int .i64 n) (fun _=>rfl) hcn (fun j a h=>by rw[C0];unfold kS;rw[x9,h];rfl) (by unfold kS;rw[j4];omega)
    simp only[upd];(repeat rw[if_neg (by decide)]);exact hco
theorem Sg (code:List Nat) (d:Nat) (inp:Str) (fuel:Nat) (hl:code.length≤1000000) (hcw:∀x∈code,x<4294967296) (hfo:∀x∈code,okW x=true∧(x/16777216=1∨x/16777216=16∨x/16777216=17∨x/16777216=24∨x/16777216=26)) (hd:d≤32768) (hfu:fuel≤500000000000) :
  aq Tryz.prog 56 [eQ (code,d),sv inp,stV (Mach.start d),iv .i64 fuel] (· = stV (runM okI code inp fuel (Mach.start d))):=by
 refine hdR Tryz.func56 rfl [.cell 8 115] fun g=>?_
 have h2:=NW code d inp fuel hl hcw hfo hd hfu
 have hgood:=uc (okI:=okI) (inp:=inp) hcw (n:=fuel) (oX d)
 generalize runM okI code inp fuel (Mach.start d)=M at h2 hgood ⊢
 unfold eQ at h2 ⊢
 have hSl:stV (Mach.start d)=.agg ((stD (Mach.start d)).map .d):=rfl
 have hT22:List.take 22 (List.map C.d (stD (Mach.start d)))=List.map C.d (stD (Mach.start d)):=l7 (by simp[stD,Mach.start])
 rw[hSl] at h2 ⊢
 have hl22:((stD M).map C.d).length=22:=by simp[stD,hgood.len]
 have hT:((stD M).map C.d).take 22=(stD M).map C.d:=l7 a6
 simp only[go_sem,hT22]
 refine⟨by simp[stD,Mach.start],?_⟩
 refine eV rfl (by simp only[go_sem,hT22];exact h2) (by simp only[go_sem,hT22];rfl) ?_
 rintro _ ⟨cnt,rfl⟩
 unfold stV
 simp only[go_sem,hl22]
 rw[nB (by rw[hl22];rfl)]
 refine⟨a6,?_⟩
 simp only[go_sem,hT,hl22]
 rw[nB (by rw[hl22];rfl)]
 refine⟨a6,?_⟩
 rw[hT]
 exact⟨_,nA (m:=M) (mc:=.d (kw M.mem)) (.d _) (by unfold stD;rw[A1];rfl),rfl⟩
theorem Ki (code:List Nat) (d:Nat) (inp:Str) (fuel:Nat) (hl:code.length≤1000000) (hcw:∀x∈code,x<4294967296) (hfo:∀x∈code,okW x=true∧(x/16777216=1∨x/16777216=16∨x/16777216=17∨x/16777216=24∨x/16777216=26)) (hd:d≤32768) (hfu:fuel≤500000000000) :
  aq Tryz.prog 22 [eQ (code,d),sv inp,iv .i64 fuel] (· = NU (Oa okI code d inp fuel)):=by
 refine hdR Tryz.func22 rfl [.cell 6 61] fun g=>?_
 have h1:=GR code d hd
 have h2:=Sg code d inp fuel hl hcw hfo hd hfu
 have hgood:=uc (okI:=okI) (inp:=inp) hcw (n:=fuel) (oX d)
 unfold Oa
 generalize runM okI code inp fuel (Mach.start d)=M at h2 hgood ⊢
 unfold eQ at h1 h2 ⊢
 have hl22:((stD M).map C.d).length=22:=by simp[stD,hgood.len]
 have hg:∀k,k<5→((stD M).map C.d)[17+k]? = ([.d (kw M.mem),.d (.int .i64 (M.rd:Nat)),.d (.str M.out),.d (.int .i64 (M.steps:Nat)),.d (.int .i64 (M.fin:Nat))]:List C)[k]?:=fun k hk=>by
  have hA:(stD M).map C.d=((.int .i64 (M.pc:Nat)::M.reg.map fun x=>D.int .u32 (x:Nat)):List D).map C.d++[.d (kw M.mem),.d (.int .i64 (M.rd:Nat)),.d (.str M.out),.d (.int .i64 (M.steps:Nat)),.d (.int .i64 (M.fin:Nat))]:=by
   unfold stD
   rw[A1]
   rfl
  rw[hA,E8 (by simp[hgood.len])]
  simp only[j4,j6,hgood.len]
  rw[show 17+k-(16+1)=k by omega]
 have g19:((stD M).map C.d)[19]? = some (.d (.str M.out)):=hg 2 a8
 have g20:((stD M).map C.d)[20]? = some (.d (.int .i64 (M.steps:Nat))):=hg 3 a8
 have g21:((stD M).map C.d)[21]? = some (.d (.int .i64 (M.fin:Nat))):=hg 4 a8
 clear hg
 unfold stV at h2
 generalize (stD M).map C.d=L at h2 hl22 g19 g20 g21
 have hT:L.take 22=L:=l7 a6
 have hSt:stV (Mach.start d)=.agg ((stD (Mach.start d)).map .d):=rfl
 rw[hSt] at h1
 simp only[go_sem]
 refine fg aP mixed [7] [([3],[0],[],false),([1],[0],[],false),([3],[0],[],false),([10],[0],[],false),([2],[0],[],false),([8,9,11,12],[0],[],false),([],[],[0],false),([7,13],[],[],true)] 1 b9 rfl a8 ?_
 simp only[go_sem]
 iterate 3 (apply aE;· (intro fa ga oa K' hK;simp only[go_sem] at hK ⊢;exact hK))
 refine aE (v:=.agg ((stD (Mach.start d)).map .d)) (fun fa ga oa K' hK=>?_) ?_
 ·simp only[go_sem] at hK ⊢
  refine eV (k:=bx K') rfl (by simp only[go_sem];exact h1) (by simp only[go_sem];rfl) ?_
  exact Wq
 (apply aE;· (intro fa ga oa K' hK;simp only[go_sem] at hK ⊢;exact hK))
 refine aE (v:=.agg L) (fun fa ga oa K' hK=>?_) ?_
 ·simp only[go_sem] at hK ⊢
  refine eV (k:=bx K') rfl (by simp only[go_sem];exact h2) (by simp only[go_sem];rfl) ?_
  exact Wq
 (apply cq;· (intro fa ga oa K' hK;simp only[go_sem] at hK ⊢;exact hK))
 apply cw
 intro K' hK'
 simp only[go_sem,hl22]
 refine hK' _ ?_
 clear hK' K'
 rw[nB (by rw[hl22];rfl)]
 have hl22':=hl22
 by_cases h0:M.fin=0
 ·have h0i:(M.fin:Int)=0:=a6
  rw[if_pos h0]
  have s21:(L.set 21 (C.d (D.int .i64 5)))[21]? = some (C.d (D.int .i64 5)):=jT a6
  have s20:(L.set 21 (C.d (D.int .i64 5)))[20]? = some (.d (.int .i64 (M.steps:Nat))):=by rw[ao a8];exact g20
  have s19:(L.set 21 (C.d (D.int .i64 5)))[19]? = some (.d (.str M.out)):=by rw[ao a8];exact g19
  simp only[go_sem,g21,h0i,s21,s20,s19]
  exact⟨a6,_,GJ,rfl⟩
 ·have h0i:¬(M.fin:Int)=0:=a6
  rw[if_neg h0]
  simp only[go_sem,g19,g20,g21,h0i]
  exact⟨_,GJ,rfl⟩
end
end Go.Proofs.YtgbcmokfgbmabaaGreatDoorR
namespace Go.Proofs.YtgbcmokfgbmabaaGreatDoorR.Low
section
attribute [local congr] Go.Am.ite_cc
open Go Go.Am Go.Asm Go.Mach
def qD (t:Nat) (code:List Nat) (d:Nat):Nat:=8*(t+1)*(code.length+d+1)
theorem F_A (t:Nat) (code:List Nat) (d:Nat) (ht:t≤1000) (hl:code.length≤1000000) (hd:d≤32768):aq Tryz.prog 23 [iv .i64 t,eQ (code,d)] (· = iv .i64 (qD t code d:Nat)):=by
 refine hdP Tryz.func23 rfl [4] fun g=>?_
 have h1:IntKind.i64.wrap ((t:Int)+1)=((t+1:Nat):Int):=by rw[wrap_i64] <;> omega
 have h2:IntKind.i64.wrap (8*((t+1:Nat):Int))=((8*(t+1):Nat):Int):=by rw[wrap_i64] <;> omega
 have h3:IntKind.i64.wrap ((code.length:Int)+(d:Int))=((code.length+d:Nat):Int):=by rw[wrap_i64] <;> omega
 have h4:IntKind.i64.wrap (((code.length+d:Nat):Int)+1)=((code.length+d+1:Nat):Int):=by rw[wrap_i64] <;> omega
 have h5:IntKind.i64.wrap (((8*(t+1):Nat):Int)*((code.length+d+1:Nat):Int))=(qD t code d:Nat):=by
  have hb:8*(t+1)*(code.length+d+1)≤8008*1032769:=Nat.mul_le_mul a6 a6
  unfold qD
  rw[←Q2,wrap_i64] <;> omega
 unfold eQ eA
 simp only[go_sem,j4,h1,h2,h3,h4,h5]
def aT:Str:=[102,117,110,99,32,109,97,105,110,40,41,32,123,32,112,117,116,40,54,53,41,59,32,125]
def qE:Str:=[102,117,110,99,32,109,97,105,110,40,41,32,123,32,112,117,116,40,54,53,41,32,125]
theorem II:na qE=([],22,3):=by
 have h:(kv qE).2=(22,3):=b9
 unfold na
 simp only
 rw[show (kv qE).2.2=3 by rw[h],show (kv qE).2.1=22 by rw[h],if_pos a8]
def aB:Str:=[83,69,69,68,6,0,0,0,1,0,0,0,1,0,240,1,65,0,16,1,0,0,16,17,0,0,16,16,0,0,16,24,0,0,0,26]
def aC:List Nat:=[32505857,17825857,286261248,269484032,403701760,436207616]
theorem a_c:na aT=(aB,0,0):=b9
theorem a_r:ju aB=some (aC,1):=b9
theorem a_z:szP (kv aT).1≤2000:=b9
theorem a_x:Oa okI aC 1 [] (qD 0 aC 1)=(1,[65],6):=b9
theorem e_c:cI ⟨[],[],[]⟩=(([],0),7):=b9
theorem w_z:szP (kv qE).1≤2000:=b9
theorem QK {P:Program}{gb:Nat}{o:cn}{f:FuncId}{R:AV→Prop} (h:bI P gb o f [.agg [.d (.sl []),.d (.sl []),.d (.sl [])]] R):bI P gb o f [.agg [.d .nsl,.d .nsl,.d .nsl]] R:=
 ⟨h.1,fun J w vs h0 h1 h2=>h.2 J w vs h0 h1 (by
  simp only[RVs,RV] at h2 ⊢
  obtain⟨u,us,rfl,⟨ws,rfl,hl,hc⟩,hus⟩:=h2
  refine⟨_,us,rfl,⟨ws,rfl,hl,fun i c hi=>?_⟩,hus⟩
  have hn:([.d .nsl,.d .nsl,.d .nsl]:List C)[i]? = some (.d .nsl):=by
   match i,hi with
   |0,_=>rfl
   |1,_=>rfl
   |2,_=>rfl
  have hs:c=.d (.sl []):=by
   match i,hi with
   |0,hi=>cases hi;rfl
   |1,hi=>cases hi;rfl
   |2,hi=>cases hi;rfl
  obtain⟨v,hv,x,hx,hr⟩:=hc i _ hn
  cases hx
  cases hr
  exact⟨_,hv,_,hs,.sl0⟩)⟩
theorem IJ {o:cn} (ht:ji o):bI Tryz.prog 3 o 8 [] (· = bv true):=by
 refine hdG Tryz.func8 rfl [.tmp 0] fun b₀ β0 s0 w0 g=>?_
 simp only[go_sem]
 refine ck rfl (by simp only[go_sem];exact vE ht (src:=aT) a_z) ?_
 rintro _ rfl
 rw[a_c]
 unfold Cd
 simp only[go_sem]
 refine gZ rfl (by simp only[go_sem];exact AQ aB a8) ?_
 rintro _ rfl
 rw[a_r]
 unfold AG eQ
 simp only[go_sem]
 refine dD aP mixed aN [6] [([4],[0],[],false),([4],[0],[],false),([23],[0],[],false),([22,24],[0],[],false),([],[],[0],false),([6,25],[],[],true)] 1 rfl b9 rfl a8 ?_
 simp only[go_sem]
 iterate 2 (apply ax;(case hg=>first|exact w7|exact⟨_,rfl,by decide,rfl⟩);(case h1=>intro fa ga oa K' hK;simp only[go_sem] at hK ⊢;exact hK))
 refine ax (v:=iv .i64 (qD 0 aC 1:Nat)) w7 (fun fa ga oa K' hK=>?_) ?_
 ·simp only[go_sem] at hK ⊢
  refine gZ rfl (by simp only[go_sem];exact F_A 0 aC 1 a8 a8 a8) ?_
  exact Wq
 refine ax (v:=NU (1,[65],6)) w7 (fun fa ga oa K' hK=>?_) ?_
 ·simp only[go_sem] at hK ⊢
  refine gZ rfl (by simp only[go_sem];exact Ki aC 1 [] (qD 0 aC 1) a8 a8 b9 a8 a8) ?_
  rintro _ rfl
  rw[a_x]
  exact XR
 unfold NU
 (apply ci;(case hg=>first|exact w7|exact⟨_,rfl,by decide,rfl⟩);(case h1=>intro fa ga oa K' hK;simp only[go_sem] at hK ⊢;exact hK))
 refine dE w7 ?_
 intro K' hK'
 simp only[go_sem]
 refine hK' _ ?_
 clear hK' K'
 simp only[go_sem]
 refine ck rfl (by simp only[go_sem];exact vE ht (src:=qE) w_z) ?_
 rintro _ rfl
 rw[II]
 unfold Cd
 simp only[go_sem]
 refine ck rfl (by simp only[go_sem];exact QK (wU ht (p:=⟨[],[],[]⟩) b9)) ?_
 rintro _ rfl
 rw[e_c]
 unfold pQ eQ
 exact VE
end
end Go.Proofs.YtgbcmokfgbmabaaGreatDoorR.Low
namespace Go.Am
section
attribute [local congr] Go.Am.ite_cc
section
variable {S:Sp}{s:St}{B:(Exit→St→Prop)→St→Prop}{Q:Exit→St→Prop}
theorem ES{b:Box B}{q:Box Q} (s₁:St) (h:S.vs s s₁) (J:Nat→St→Prop) (n:Nat) (h0:J 0 s₁)
  (hr:∀k f g ob,k≤n→J k ⟨f,g,ob⟩→B (jD (bx fun s'=>∃n' s₁,n'<n-k∧S.vs s' s₁∧∃k',n'+k'=n∧J k' s₁) q) ⟨f,g,ob⟩):pg S b q s:=
 ⟨fun m st=>∃k,m+k=n∧J k st,⟨n,s₁,h,0,rfl,h0⟩,fun m st ⟨k,h1,h2⟩=>by
  have:=hr k st.f st.gen st.obj a6 h2
  rwa [show n-k=m by omega] at this⟩
theorem dq{b:Box B}{q:Box Q} (J:Nat→St→Prop) (n:Nat) (h0:J 0 s)
  (hr:∀k f g ob,k≤n→J k ⟨f,g,ob⟩→B (jD (bx fun s'=>∃n' s₁,n'<n-k∧S.vs s' s₁∧∃k',n'+k'=n∧J k' s₁) q) ⟨f,g,ob⟩) (hv:∀s,S.vs s s:=by exact fun s=>ag.refl s):pg S b q s:=ES s (hv s) J n h0 hr
theorem bD{J:Nat→St→Prop}{n k:Nat} (h:k<n) (hJ:J (k+1) s) (hv:S.vs s s:=by exact ag.refl _):∃n' s₁,n'<n-k∧S.vs s s₁∧∃k',n'+k'=n∧J k' s₁:=
 ⟨n-(k+1),s,a6,hv,k+1,a6,hJ⟩
end
end
end Go.Am
namespace Go.Src
section
attribute [local congr] Go.Am.ite_cc
section
mutual
def inE:Ex→Prop
 |.mk _ _ _ _ kids=>kids.length≤1000000000000000000∧pC kids
def pC:List Ex→Prop
 |[]=>True
 |e::l=>inE e∧pC l
end
mutual
def inS:Stm→Prop
 |.mk _ _ e th el=>(e.length≤1000000000000000000∧pC e)∧(th.length≤1000000000000000000∧oF th)∧(el.length≤1000000000000000000∧oF el)
def oF:List Stm→Prop
 |[]=>True
 |e::l=>inS e∧oF l
end
theorem ET:∀{l:List Ex}{k:Nat}{e:Ex},pC l→l[k]? = some e→inE e
 |_::_,0,_,h,he=>by cases he;exact h.1
 |_::_,_+1,_,h,he=>ET h.2 (by simpa using he)
theorem EU:∀{l:List Stm}{k:Nat}{e:Stm},oF l→l[k]? = some e→inS e
 |_::_,0,_,h,he=>by cases he;exact h.1
 |_::_,_+1,_,h,he=>EU h.2 (by simpa using he)
mutual
def lT:Ex→Int→Int→Int
 |.mk _ _ _ name kids,left,deep=>if deep≤0∨60<(name.length:Int) then -1 else cH kids (left-1) (deep-1)
def cH:List Ex→Int→Int→Int
 |[],left,_=>left
 |e::l,left,deep=>if left<0 then left else cH l (lT e left deep) deep
end
mutual
def lU:Stm→Int→Int→Int
 |.mk _ name e th el,left,deep=>if deep≤0∨60<(name.length:Int) then -1 else cW el (cW th (cH e (left-1) (deep-1)) (deep-1)) (deep-1)
def cW:List Stm→Int→Int→Int
 |[],left,_=>left
 |e::l,left,deep=>if left<0 then left else cW l (lU e left deep) deep
end
variable {left deep:Int}
theorem Ad (h:left<0):∀l:List Ex,cH l left deep=left
 |[]=>rfl
 |e::l=>by rw[cH,if_pos h]
theorem lz (h:left<0):∀l:List Stm,cW l left deep=left
 |[]=>rfl
 |e::l=>by rw[cW,if_pos h]
mutual
theorem EV:∀(e:Ex) (left deep:Int),lT e left deep<0∨lT e left deep+szE e=left
 |.mk _ _ _ name kids,left,deep=>by
   rw[lT,szE]
   split
   ·omega
   ·have:=qy kids (left-1) (deep-1);omega
theorem qy:∀(l:List Ex) (left deep:Int),cH l left deep<0∨cH l left deep+aG l=left
 |[],left,deep=>by rw[cH,aG];omega
 |e::l,left,deep=>by
   rw[cH,aG]
   split
   ·omega
   ·have:=EV e left deep
    by_cases h:(lT e left deep)<0
    ·rw[Ad h];omega
    ·have:=qy l (lT e left deep) deep;omega
end
mutual
theorem EW:∀(e:Stm) (left deep:Int),lU e left deep<0∨lU e left deep+szS e=left
 |.mk _ name e th el,left,deep=>by
   rw[lU,szS]
   split
   ·omega
   ·have h1:=qy e (left-1) (deep-1)
    by_cases h:(cH e (left-1) (deep-1))<0
    ·rw[lz h,lz h];omega
    have h2:=nv th (cH e (left-1) (deep-1)) (deep-1)
    by_cases h':(cW th (cH e (left-1) (deep-1)) (deep-1))<0
    ·rw[lz h'];omega
    have h3:=nv el (cW th (cH e (left-1) (deep-1)) (deep-1)) (deep-1)
    omega
theorem nv:∀(l:List Stm) (left deep:Int),cW l left deep<0∨cW l left deep+au l=left
 |[],left,deep=>by rw[cW,au];omega
 |e::l,left,deep=>by
   rw[cW,au]
   split
   ·omega
   ·have:=EW e left deep
    by_cases h:(lU e left deep)<0
    ·rw[lz h];omega
    ·have:=nv l (lU e left deep) deep;omega
end
mutual
theorem EX:∀(e:Ex) (left deep:Int),0≤left→-1≤lT e left deep
 |.mk _ _ _ name kids,left,deep,h=>by
   rw[lT]
   split
   ·omega
   ·exact qz kids _ _ a6
theorem qz:∀(l:List Ex) (left deep:Int),-1≤left→-1≤cH l left deep
 |[],left,deep,h=>by rw[cH];exact h
 |e::l,left,deep,h=>by
   rw[cH]
   split
   ·exact h
   ·exact qz l _ _ (EX e _ _ a6)
end
mutual
theorem EY:∀(e:Stm) (left deep:Int),0≤left→-1≤lU e left deep
 |.mk _ name e th el,left,deep,h=>by
   rw[lU]
   split
   ·omega
   ·exact qA el _ _ (qA th _ _ (qz e _ _ a6))
theorem qA:∀(l:List Stm) (left deep:Int),-1≤left→-1≤cW l left deep
 |[],left,deep,h=>by rw[cW];exact h
 |e::l,left,deep,h=>by
   rw[cW]
   split
   ·exact h
   ·exact qA l _ _ (EY e _ _ a6)
end
end
end
end Go.Src
namespace Go.Proofs.YtgbcmokfgbmabaaGreatDoorR
section
attribute [local congr] Go.Am.ite_cc
open Go Go.Am Go.Asm
open Go.Src (Ex Stm szE aG szS au inE pC inS oF lT cH lU cW)
theorem dr {α:Type}{l:List α}{k:Nat}{e:α} (h:l[k]? = some e):l.drop k=e::l.drop (k+1):=by
 obtain⟨h1,rfl⟩:=l4.1 h
 exact A5 h1
theorem getD_at {α:Type}{f:α→List D}{l:List α}{k:Nat}{e:α} (h:l[k]? = some e):(l.map f)[k]? = some (f e):=by rw[x9,h];rfl
theorem xQ:∀(N:Nat) (l:List Ex) (left deep:Int),aG l≤N→l.length≤1000000000000000000→pC l→(-4000000000000000000≤left∧left≤1000000)→(0≤deep∧deep≤60)→aq Tryz.prog 66 [dj l,iv .i64 left,iv .i64 deep] (· = iv .i64 (cH l left deep)):=by
 intro N
 induction N using Nat.strongRecOn with
 |ind N ih=>
 intro l left deep hN hl hin hle hde
 refine hdP Tryz.func66 rfl [6] fun g=>?_
 obtain⟨z,hz⟩:∃z,cH l left deep=z:=⟨_,rfl⟩
 rw[hz]
 unfold dj
 simp only[go_sem]
 refine dq (fun k st=>∃c:Int,cH (l.drop k) c deep=z∧(-4000000000000000000≤c∧c≤1000000)∧st.f 0=.one (.d (.sl (l.map exD)))∧st.f 1=iv .i64 c∧st.f 2=iv .i64 deep∧st.f 7=iv .i64 k) l.length ⟨left,hz,hle,?_⟩ ?_
 ·exact VE
 rintro k f g1 ob1 hk ⟨c,hc,hcl,q0,q1,q2,q7⟩
 simp only at q0 q1 q2 q7
 have hw:=ab (k:=k) a6
 by_cases hlt:k<l.length
 case neg=>
  have hki:¬(k:Int)<(l.length:Int):=a6
  rw[x6 a6,cH] at hc
  simp only[go_sem,q0,q1,q2,q7,hki,j4,hc]
 have hki:(k:Int)<(l.length:Int):=a6
 by_cases hc0:0≤c
 case neg=>
  rw[Src.Ad a6] at hc
  subst hc
  simp only[go_sem,q0,q1,q2,q7,hki,j4,hc0]
 have hw1:IntKind.i64.wrap (c-1)=c-1:=wrap_i64 _ a6 a6
 have hw2:IntKind.i64.wrap (deep-1)=deep-1:=wrap_i64 _ a6 a6
 obtain⟨e,he⟩:=getq hlt
 rw[dr he,cH,if_neg a6] at hc
 have hi:=Src.ET hin he
 have hsz:=Src.Kv (l0 he)
 obtain⟨kind,op,num,name,kids⟩:=e
 have hE:exD (.mk kind op num name kids)=[.int .i64 kind,.int .i64 op,.int .u32 num,.str name,.sl (kids.map exD)]:=by simp only[exD,aw]
 have hg:=getD_at (f:=exD) he
 rw[hE] at hg
 rw[lT] at hc
 rw[szE] at hsz
 rw[inE] at hi
 by_cases hd:deep≤0
 ·rw[if_pos (.inl hd),Src.Ad a6] at hc
  simp only[go_sem,q0,q1,q2,q7,hki,j4,hc0,hw1,hd,←hc]
 by_cases hn:60<(name.length:Int)
 ·rw[if_pos (.inr hn),Src.Ad a6] at hc
  simp only[go_sem,q0,q1,q2,q7,hki,j4,hc0,hw1,hd,hg,hn,←hc]
 rw[if_neg a6] at hc
 have ho:=Src.qy kids (c-1) (deep-1)
 have hlo:=Src.qz kids (c-1) (deep-1) a6
 simp only[go_sem,q0,q1,q2,q7,hki,j4,hc0,hw1,hw2,hd,hg,hn]
 refine bG rfl (by simp only[go_sem,hw2];exact ih (aG kids) a6 kids (c-1) (deep-1) (j8 _) hi.1 hi.2 a6 a6) ?_
 exact X6
end
end Go.Proofs.YtgbcmokfgbmabaaGreatDoorR
namespace Go.Src
section
attribute [local congr] Go.Am.ite_cc
open Go.Asm (Str)
def Ag (l:List Str):Bool:=decide (l.length≤200)&&l.all fun s=>decide ((s.length:Int)≤60)
def IM (left:Int):List Fn→Option Int
 |[]=>some left
 |f::l=>if Ag f.params && Ag f.locals && decide ((f.name.length:Int)≤60) then IM (cW f.body (left-f.params.length-f.locals.length) 60) l else none
def QO (p:Prog) (most:Int):Bool:=
 if (Ag p.vars && decide (p.arrays.length≤200) && decide (p.funcs.length≤70))=false then false
 else if (p.arrays.all fun a=>decide ((a.1.length:Int)≤60))=false then false
 else match IM (most-p.vars.length-p.arrays.length-p.funcs.length) p.funcs with
  |some n=>decide (0≤n)
  |none=>false
structure InP (p:Prog):Prop where
 v:p.vars.length≤1000000000000000000
 a:p.arrays.length≤1000000000000000000
 f:p.funcs.length≤1000000000000000000
 fs:∀f∈p.funcs,(f.params.length≤1000000000000000000∧f.locals.length≤1000000000000000000)∧f.body.length≤1000000000000000000∧oF f.body
theorem Bt:∀(l:List Fn) (left n:Int),IM left l=some n→n<0∨n+((l.map fun f=>f.params.length+f.locals.length+au f.body).sum:Nat)≤left
 |[],left,n,h=>by cases h;simp
 |f::l,left,n,h=>by
   rw[IM] at h
   split at h
   ·have ih:=Bt l _ n h
    simp only[l5,C6]
    have hb:=nv f.body (left-f.params.length-f.locals.length) 60
    omega
   ·cases h
theorem SN {p:Prog}{most:Nat} (h:QO p most=true):p.vars.length+p.arrays.length+p.funcs.length+(p.funcs.map fun f=>f.params.length+f.locals.length+au f.body).sum≤most:=by
 unfold QO at h
 split at h
 ·cases h
 split at h
 ·cases h
 split at h
 ·rename_i n hn
  have h0:=M9 h
  rcases Bt _ _ _ hn with h1|h1 <;> omega
 ·cases h
end
end Go.Src
namespace Go.Proofs.YtgbcmokfgbmabaaGreatDoorR
section
attribute [local congr] Go.Am.ite_cc
open Go Go.Am Go.Asm
open Go.Src (Ex Stm szE aG szS au inE pC inS oF lT cH lU cW)
theorem xU:∀(N:Nat) (l:List Stm) (left deep:Int),au l≤N→l.length≤1000000000000000000→oF l→(-4000000000000000000≤left∧left≤1000000)→(0≤deep∧deep≤60)→aq Tryz.prog 32 [dO l,iv .i64 left,iv .i64 deep] (· = iv .i64 (cW l left deep)):=by
 intro N
 induction N using Nat.strongRecOn with
 |ind N ih=>
 intro l left deep hN hl hin hle hde
 refine hdP Tryz.func32 rfl [6] fun g=>?_
 obtain⟨z,hz⟩:∃z,cW l left deep=z:=⟨_,rfl⟩
 rw[hz]
 unfold dO
 simp only[go_sem]
 refine dq (fun k st=>∃c:Int,cW (l.drop k) c deep=z∧(-4000000000000000000≤c∧c≤1000000)∧st.f 0=.one (.d (.sl (l.map smD)))∧st.f 1=iv .i64 c∧st.f 2=iv .i64 deep∧st.f 7=iv .i64 k) l.length ⟨left,hz,hle,?_⟩ ?_
 ·exact VE
 rintro k f g1 ob1 hk ⟨c,hc,hcl,q0,q1,q2,q7⟩
 simp only at q0 q1 q2 q7
 have hw:=ab (k:=k) a6
 by_cases hlt:k<l.length
 case neg=>
  have hki:¬(k:Int)<(l.length:Int):=a6
  rw[x6 a6,cW] at hc
  simp only[go_sem,q0,q1,q2,q7,hki,j4,hc]
 have hki:(k:Int)<(l.length:Int):=a6
 by_cases hc0:0≤c
 case neg=>
  rw[Src.lz a6] at hc
  subst hc
  simp only[go_sem,q0,q1,q2,q7,hki,j4,hc0]
 have hw1:IntKind.i64.wrap (c-1)=c-1:=wrap_i64 _ a6 a6
 have hw2:IntKind.i64.wrap (deep-1)=deep-1:=wrap_i64 _ a6 a6
 obtain⟨e,he⟩:=getq hlt
 rw[dr he,cW,if_neg a6] at hc
 have hi:=Src.EU hin he
 have hsz:=Src.Kw (l0 he)
 obtain⟨kind,name,e,th,el⟩:=e
 have hE:smD (.mk kind name e th el)=[.int .i64 kind,.str name,.sl (e.map exD),.sl (th.map smD),.sl (el.map smD)]:=by simp only[smD,aw,cK]
 have hg:=getD_at (f:=smD) he
 rw[hE] at hg
 rw[lU] at hc
 rw[szS] at hsz
 rw[inS] at hi
 by_cases hd:deep≤0
 ·rw[if_pos (.inl hd),Src.lz a6] at hc
  simp only[go_sem,q0,q1,q2,q7,hki,j4,hc0,hw1,hd,←hc]
 by_cases hn:60<(name.length:Int)
 ·rw[if_pos (.inr hn),Src.lz a6] at hc
  simp only[go_sem,q0,q1,q2,q7,hki,j4,hc0,hw1,hd,hg,hn,←hc]
 rw[if_neg a6] at hc
 have b1:=Src.qy e (c-1) (deep-1)
 have b2:=Src.qz e (c-1) (deep-1) a6
 have c1:=Src.nv th (cH e (c-1) (deep-1)) (deep-1)
 have c2:=Src.qA th (cH e (c-1) (deep-1)) (deep-1) a6
 have d1:=Src.nv el (cW th (cH e (c-1) (deep-1)) (deep-1)) (deep-1)
 have d2:=Src.qA el (cW th (cH e (c-1) (deep-1)) (deep-1)) (deep-1) a6
 simp only[go_sem,q0,q1,q2,q7,hki,j4,hc0,hw1,hw2,hd,hg,hn]
 refine bG rfl (by simp only[go_sem,hw2];exact xQ (aG e) e (c-1) (deep-1) (j8 _) hi.1.1 hi.1.2 a6 a6) ?_
 rintro _ rfl
 simp only[go_sem,q0,q2,q7,hg,hw2]
 refine bG rfl (by simp only[go_sem,hw2];exact ih (au th) a6 th _ (deep-1) (j8 _) hi.2.1.1 hi.2.1.2 a6 a6) ?_
 rintro _ rfl
 simp only[go_sem,q0,q2,q7,hg,hw2]
 refine bG rfl (by simp only[go_sem,hw2];exact ih (au el) a6 el _ (deep-1) (j8 _) hi.2.2.1 hi.2.2.2 a6 a6) ?_
 exact X6
theorem cA {α:Type}{p:α→Bool}{l:List α}{k:Nat}{x:α}{z:Bool} (h:(l.drop k).all p=z) (hx:l[k]? = some x):(p x=true→(l.drop (k+1)).all p=z)∧(p x=false→z=false):=by
 rw[dr hx,D4] at h
 constructor
 ·intro e;rw[e,s7] at h;exact h
 ·intro e;rw[e,y9] at h;exact h.symm
def iY (l:List Str):AV:=.one (.d (.sl (l.map fun s=>[.str s])))
theorem wB (l:List Str) (hl:l.length≤1000000000000000000):aq Tryz.prog 31 [iY l] (· = bv (Src.Ag l)):=by
 refine hdP Tryz.func31 rfl [2] fun g=>?_
 unfold Src.Ag iY
 obtain⟨z,hz⟩:∃z,(l.all fun s=>decide ((s.length:Int)≤60))=z:=⟨_,rfl⟩
 rw[hz]
 simp only[go_sem]
 refine dq (fun k st=>((l.drop k).all fun s=>decide ((s.length:Int)≤60))=z∧st.f 0=.one (.d (.sl (l.map fun s=>[.str s])))∧st.f 3=iv .i64 k) l.length ⟨hz,?_⟩ ?_
 ·exact VE
 rintro k f g1 ob1 hk ⟨hc,q0,q3⟩
 simp only at q0 q3
 have hw:=ab (k:=k) a6
 by_cases hlt:k<l.length
 case neg=>
  have hki:¬(k:Int)<(l.length:Int):=a6
  rw[x6 a6] at hc
  have hz:z=true:=hc.symm
  have e:decide ((l.length:Int)≤200)=decide (l.length≤200):=by congr 1;exact propext ⟨fun h=>by omega,fun h=>by omega⟩
  simp only[go_sem,q0,q3,hki,j4,hz,J6,e]
 have hki:(k:Int)<(l.length:Int):=a6
 obtain⟨s,hs⟩:=getq hlt
 obtain⟨h1,h2⟩:=cA hc hs
 have hg:=getD_at (f:=fun s:Str=>[D.str s]) hs
 by_cases hn:60<(s.length:Int)
 ·have hz:z=false:=h2 (y7 a6)
  simp only[go_sem,q0,q3,hki,j4,hg,hn,hz,B3]
 ·simp only[go_sem,q0,q3,hki,j4,hg,hn,hw]
  refine bD hlt ⟨h1 (A7 a6),?_⟩
  exact X7
end
end Go.Proofs.YtgbcmokfgbmabaaGreatDoorR

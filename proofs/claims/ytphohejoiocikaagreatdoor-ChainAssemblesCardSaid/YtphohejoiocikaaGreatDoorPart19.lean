/- A part of the proof; no conditions. -/
import Derived.Test.YtphohejoiocikaaGreatDoorPart18
set_option linter.unusedSimpArgs false
set_option linter.unusedVariables false
set_option maxHeartbeats 64000000
set_option maxRecDepth 100000
namespace Go.Proofs.YtphohejoiocikaaGreatDoor
section
attribute [local congr] Go.Am.ite_cc
open Go Go.Am Go.Asm
open Go.Src (Ex)
theorem uG (s:Str):ap Tryz.prog 188 [sv s] (· = iv .i64 ((Src.cG s).2.2:Nat)):=by
 refine hdR Tryz.func188 rfl [.tmp 2] fun g=>?_
 by_cases h0:s=[124,124]
 ·have hv:Src.cG s=(9,0,1):=by subst h0;rfl
  rw[hv]
  simp only[go_sem,C9 h0]
 by_cases h1:s=[38,38]
 ·have hv:Src.cG s=(8,0,2):=by subst h1;rfl
  rw[hv]
  simp only[go_sem,h0,C9 h1]
 by_cases h2:s=[61,61]
 ·have hv:Src.cG s=(6,15,3):=by subst h2;rfl
  rw[hv]
  simp only[go_sem,h0,h1,C9 h2]
 by_cases h3:s=[60]
 ·have hv:Src.cG s=(6,14,4):=by subst h3;rfl
  rw[hv]
  simp only[go_sem,h0,h1,h2,C9 h3]
 by_cases h4:s=[124]
 ·have hv:Src.cG s=(6,10,5):=by subst h4;rfl
  rw[hv]
  simp only[go_sem,h0,h1,h2,h3,C9 h4]
 by_cases h5:s=[94]
 ·have hv:Src.cG s=(6,11,5):=by subst h5;rfl
  rw[hv]
  simp only[go_sem,h0,h1,h2,h3,h4,C9 h5]
 by_cases h6:s=[38]
 ·have hv:Src.cG s=(6,9,6):=by subst h6;rfl
  rw[hv]
  simp only[go_sem,h0,h1,h2,h3,h4,h5,C9 h6]
 by_cases h7:s=[60,60]
 ·have hv:Src.cG s=(6,12,7):=by subst h7;rfl
  rw[hv]
  simp only[go_sem,h0,h1,h2,h3,h4,h5,h6,C9 h7]
 by_cases h8:s=[62,62]
 ·have hv:Src.cG s=(6,13,7):=by subst h8;rfl
  rw[hv]
  simp only[go_sem,h0,h1,h2,h3,h4,h5,h6,h7,C9 h8]
 by_cases h9:s=[43]
 ·have hv:Src.cG s=(6,4,8):=by subst h9;rfl
  rw[hv]
  simp only[go_sem,h0,h1,h2,h3,h4,h5,h6,h7,h8,C9 h9]
 by_cases h10:s=[45]
 ·have hv:Src.cG s=(6,5,8):=by subst h10;rfl
  rw[hv]
  simp only[go_sem,h0,h1,h2,h3,h4,h5,h6,h7,h8,h9,C9 h10]
 by_cases h11:s=[42]
 ·have hv:Src.cG s=(6,6,9):=by subst h11;rfl
  rw[hv]
  simp only[go_sem,h0,h1,h2,h3,h4,h5,h6,h7,h8,h9,h10,C9 h11]
 by_cases h12:s=[47]
 ·have hv:Src.cG s=(6,7,9):=by subst h12;rfl
  rw[hv]
  simp only[go_sem,h0,h1,h2,h3,h4,h5,h6,h7,h8,h9,h10,h11,C9 h12]
 by_cases h13:s=[37]
 ·have hv:Src.cG s=(6,8,9):=by subst h13;rfl
  rw[hv]
  simp only[go_sem,h0,h1,h2,h3,h4,h5,h6,h7,h8,h9,h10,h11,h12,C9 h13]
 have hv:Src.cG s=(0,0,0):=by unfold Src.cG;simp only[h0,h1,h2,h3,h4,h5,h6,h7,h8,h9,h10,h11,h12,h13,A1]
 rw[hv]
 simp only[go_sem,h0,h1,h2,h3,h4,h5,h6,h7,h8,h9,h10,h11,h12,h13]
theorem zz (e:Ex):∀x∈exD e,fV x=x:=by
 obtain⟨a,b,c,d,l⟩:=e
 intro x hx
 simp only[exD,s7,u7,E0] at hx
 rcases hx with rfl|rfl|rfl|rfl|rfl <;> rfl
theorem Jz {s:St}{id g n:Nat}{l:List Ex} (hg:s.gen id=g) (ho:s.obj id=some (exC l)) (hn:l.length=n):Frz s (.osl id g 5 0 n) (.sl (kQ l)):=by
 rw[bw]
 have hfl:(l.map exD).flatten.map C.d=exC l:=by unfold exC;rw[List.flatMap_def,List.map_flatten,LU];rfl
 refine .osl hg ho (by rw[vK];omega) (by simpa using hn) (fun e he=>by obtain⟨a,_,rfl⟩:=A8.1 he;exact aK a) (fun j=>.d ((l.map exD).flatten.getD j default)) (fun j x hx=>?_) (fun j x hx=>?_)
 ·rw[A3,←hfl,l8,hx]
  simp[List.getD,hx]
 ·have hm:=l4 hx
  rw[List.mem_flatten] at hm
  obtain⟨r,hr,hxr⟩:=hm
  obtain⟨e,_,rfl⟩:=A8.1 hr
  simp only[List.getD,hx,s5]
  have:=Frz.d (s:=s) x
  rwa [zz e x hxr] at this
theorem lW {s:St}{k op:Int}{id g:Nat}{a b:Ex}{z:AV} (hz:exV (.mk k op 0 [] [a,b])=z) (hg:s.gen id=g) (ho:s.obj id=some (exC [a,b])) :
  ∃r,iR s (.agg [.d (.int .i64 k),.d (.int .i64 op),.d (.int .u32 0),.d (.str []),.osl id g 5 0 2]) r∧r=z:=by
 subst hz
 refine⟨_,⟨[.int .i64 k,.int .i64 op,.int .u32 0,.str [],.sl (kQ [a,b])],rfl,fun i c hc=>?_,rfl⟩,by simp[exV,exD]⟩
 match i,hc with
 |0,hc=>cases hc;exact⟨_,rfl,.d _⟩
 |1,hc=>cases hc;exact⟨_,rfl,.d _⟩
 |2,hc=>cases hc;exact⟨_,rfl,.d _⟩
 |3,hc=>cases hc;exact⟨_,rfl,.d _⟩
 |4,hc=>cases hc;exact⟨_,rfl,Jz hg ho rfl⟩
theorem FB (s:Str) (a b:Ex) (hs:(Src.cG s).2.2≠0):ap Tryz.prog 189 [sv s,exV a,exV b] (· = exV (.mk (Src.cG s).1 (Src.cG s).2.1 0 [] [a,b])):=by
 refine hdR Tryz.func189 rfl [.cell 6 229] fun g=>?_
 obtain⟨z,hz⟩:∃z,exV (.mk (Src.cG s).1 (Src.cG s).2.1 0 [] [a,b])=z:=⟨_,rfl⟩
 rw[hz]
 obtain⟨ak,ao,an,ax,akd⟩:=a
 obtain⟨bk,bo,bn,bx,bkd⟩:=b
 simp only[show ∀a b c d e,exV (.mk a b c d e)=.agg [.d (.int .i64 a),.d (.int .i64 b),.d (.int .u32 c),.d (.str d),.d (.sl (kQ e))] from fun _ _ _ _ _=>by simp[exV,exD]]
 by_cases h0:s=[124,124]
 ·have hv:Src.cG s=(9,0,1):=by subst h0;rfl
  rw[hv] at hz
  simp only[go_sem,C9 h0]
  exact Me
 by_cases h1:s=[38,38]
 ·have hv:Src.cG s=(8,0,2):=by subst h1;rfl
  rw[hv] at hz
  simp only[go_sem,h0,C9 h1]
  exact Me
 by_cases h2:s=[61,61]
 ·have hv:Src.cG s=(6,15,3):=by subst h2;rfl
  rw[hv] at hz
  simp only[go_sem,h0,h1,C9 h2]
  exact Me
 by_cases h3:s=[60]
 ·have hv:Src.cG s=(6,14,4):=by subst h3;rfl
  rw[hv] at hz
  simp only[go_sem,h0,h1,h2,C9 h3]
  exact Me
 by_cases h4:s=[124]
 ·have hv:Src.cG s=(6,10,5):=by subst h4;rfl
  rw[hv] at hz
  simp only[go_sem,h0,h1,h2,h3,C9 h4]
  exact Me
 by_cases h5:s=[94]
 ·have hv:Src.cG s=(6,11,5):=by subst h5;rfl
  rw[hv] at hz
  simp only[go_sem,h0,h1,h2,h3,h4,C9 h5]
  exact Me
 by_cases h6:s=[38]
 ·have hv:Src.cG s=(6,9,6):=by subst h6;rfl
  rw[hv] at hz
  simp only[go_sem,h0,h1,h2,h3,h4,h5,C9 h6]
  exact Me
 by_cases h7:s=[60,60]
 ·have hv:Src.cG s=(6,12,7):=by subst h7;rfl
  rw[hv] at hz
  simp only[go_sem,h0,h1,h2,h3,h4,h5,h6,C9 h7]
  exact Me
 by_cases h8:s=[62,62]
 ·have hv:Src.cG s=(6,13,7):=by subst h8;rfl
  rw[hv] at hz
  simp only[go_sem,h0,h1,h2,h3,h4,h5,h6,h7,C9 h8]
  exact Me
 by_cases h9:s=[43]
 ·have hv:Src.cG s=(6,4,8):=by subst h9;rfl
  rw[hv] at hz
  simp only[go_sem,h0,h1,h2,h3,h4,h5,h6,h7,h8,C9 h9]
  exact Me
 by_cases h10:s=[45]
 ·have hv:Src.cG s=(6,5,8):=by subst h10;rfl
  rw[hv] at hz
  simp only[go_sem,h0,h1,h2,h3,h4,h5,h6,h7,h8,h9,C9 h10]
  exact Me
 by_cases h11:s=[42]
 ·have hv:Src.cG s=(6,6,9):=by subst h11;rfl
  rw[hv] at hz
  simp only[go_sem,h0,h1,h2,h3,h4,h5,h6,h7,h8,h9,h10,C9 h11]
  exact Me
 by_cases h12:s=[47]
 ·have hv:Src.cG s=(6,7,9):=by subst h12;rfl
  rw[hv] at hz
  simp only[go_sem,h0,h1,h2,h3,h4,h5,h6,h7,h8,h9,h10,h11,C9 h12]
  exact Me
 by_cases h13:s=[37]
 ·have hv:Src.cG s=(6,8,9):=by subst h13;rfl
  rw[hv] at hz
  simp only[go_sem,h0,h1,h2,h3,h4,h5,h6,h7,h8,h9,h10,h11,h12,C9 h13]
  exact Me
 exact absurd (by unfold Src.cG;simp only[h0,h1,h2,h3,h4,h5,h6,h7,h8,h9,h10,h11,h12,h13,A1]) hs
end
end Go.Proofs.YtphohejoiocikaaGreatDoor

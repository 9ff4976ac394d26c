/- A part of the proof; no conditions. -/
import Derived.Test.YtlacbjnmkhndiaaGreatDoorPart8
set_option linter.unusedSimpArgs false
set_option linter.unusedVariables false
set_option linter.defProp false
open List renaming length -> z
open Option renaming some -> S, none -> N
open Bool renaming true -> T, false -> F
set_option maxHeartbeats 64000000
set_option maxRecDepth 100000
namespace Go.Proofs.YtlacbjnmkhndiaaGreatDoor
section
attribute [local congr] Go.Am.ite_cc
open Go Go.Am Go.Asm
def sD:Str->Src.R (Nat×Str×Nat)
 |c::x::y::_=>if y=39/\32<=x.toNat/\x.toNat<=126/\x≠39/\x≠92 then .ok (2,[c,x,y],x.toNat)else .err 3
 |_=>.err 3
def If(s:Str):ax Tryz.prog 184 [sv s] (·=qu (sD s)):=by
 refine hdR Tryz.func184 rfl [.cell 2 179,.tmp 3] λg=>?_;by_cases w:z s<3
 .have n:(z s:Int)<3:=a7
  have hb:sD s=.err 3:=by
   match s,w with
   |[],_=>rfl
   |[_],_=>rfl
   |[_,_],_=>rfl
   |_::_::_::_,h=>simp at h;omega
  rw[hb];simp only[go_sem,n];exact z8
 obtain⟨c,x,y,r,rfl⟩:∃c x y r,s=c::x::y::r:=by
  match s,w with
  |c::x::y::r,_=>exact⟨c,x,y,r,rfl⟩
  |[],h=>simp at h
  |[_],h=>simp at h
  |[_,_],h=>simp at h
 have n:¬(z (c::x::y::r):Int)<3:=a7;have o:(c::x::y::r)[2]?=S y:=rfl;have U:(c::x::y::r)[1]?=S x:=rfl;have A:(c::x::y::r).take 3=[c,x,y]:=rfl;have l:3<=z (c::x::y::r):=a8;rw[show sD (c::x::y::r)=(if y=39/\32<=x.toNat/\x.toNat<=126/\x≠39/\x≠92 then .ok (2,[c,x,y],x.toNat)else .err 3)from rfl];generalize (c::x::y::r)=s at n o U A l;by_cases p:y=39
 case neg=>
  have a:¬((y.toNat:Nat):Int)=39:=pk (d:=39) p;rw[j8 (λh=>p h.1)];simp only[go_sem,n,o,a];exact z8
 have a:((y.toNat:Nat):Int)=39:=by rw[p];rfl
 by_cases B:32<=x.toNat
 case neg=>
  have b:((x.toNat:Nat):Int)<32:=a7;rw[j8 (λh=>B h.2.1)];simp only[go_sem,n,o,U,a,b];exact z8
 have b:¬((x.toNat:Nat):Int)<32:=a7;by_cases E:x.toNat<=126
 case neg=>
  have f:(126:Int)<((x.toNat:Nat):Int):=a7;rw[j8 (λh=>E h.2.2.1)];simp only[go_sem,n,o,U,a,b,f];exact z8
 have f:¬(126:Int)<((x.toNat:Nat):Int):=a7;by_cases q:x=39
 .have i:((x.toNat:Nat):Int)=39:=by rw[q];rfl
  rw[j8 (λh=>h.2.2.2.1 q)];simp only[go_sem,n,o,U,a,b,f,i];exact z8
 have i:¬((x.toNat:Nat):Int)=39:=pk (d:=39) q;by_cases u:x=92
 .have j:((x.toNat:Nat):Int)=92:=by rw[u];rfl
  rw[j8 (λh=>h.2.2.2.2 u)];simp only[go_sem,n,o,U,a,b,f,i,j];exact z8
 have j:¬((x.toNat:Nat):Int)=92:=pk (d:=92) u;rw[l8 ⟨p,B,E,q,u⟩];have t:IntKind.u32.wrap ((x.toNat:Nat):Int)=((x.toNat:Nat):Int):=by have:=x.toNat_lt;rw[IntKind.wrap_u32];omega
 simp only[go_sem,n,o,U,a,b,f,i,j];refine bO c8 ?_;simp only[go_sem,U,t,D3,A];exact⟨l,_,dE (k:=2) (e:=0),rfl⟩
end
end Go.Proofs.YtlacbjnmkhndiaaGreatDoor
namespace Go.Am
section
section
section
variable{P:Program}{E:Nat->TI}{O:Bs}{β:Loc}{g:Nat->Nat}{ob:Obs}{k:Nat}{w G:World}
end
end
end
end Go.Am
namespace Go.Proofs.YtlacbjnmkhndiaaGreatDoor
section
attribute [local congr] Go.Am.ite_cc
open Go Go.Am Go.Asm
def jS(o:cF):Prop:=∀w:World,sJ 1 o w->(∀(i:Nat)t,Src.iC[i]?=S t->w.cell? ⟨1,i,N⟩=S (.string ⟨t.toArray⟩))/\(∀(i:Nat)t,Src.Py[i]?=S t->w.cell? ⟨0,i,N⟩=S (.string ⟨t.toArray⟩))
def zL{o:cF}(ho:jS o)(s:Str):bP Tryz.prog 1 o 189 [sv s] (·=bv (decide (s∈Src.iC))):=by
 refine hdG Tryz.func189 rfl [.tmp 2] λO bn s0 w0 g=>?_;have y:z Src.iC=10:=rfl;simp only[go_sem];refine aw (λn K=>∃k:Nat,n+k=10/\K.f 0=sv s/\K.f 4=iv .i64 k/\s∉Src.iC.take k) 10 ?_ ?_
 .refine⟨0,rfl,?_⟩
  simp only[go_sem];simp
 rintro n f E H ⟨k,J,a,b,u⟩;simp only at a b;have r:=ac (k:=k) a7;by_cases A:k<10
 .have G:(k:Int)<10:=a7
  obtain⟨t,v⟩:=getq (l:=Src.iC) (k:=k) a7;simp only[go_sem,a,b,G]
  refine rm aE (λs L ds w h=>h.1.2) aA (n:=10) (e:=9) rfl rfl b9 (kd:=.i64) (i:=k) (by simp only[go_sem,b]) A (cs:=[.str t]) (λj x I=>by match j,I with|0,I=>cases I;rfl) (λw r j x I=>by
   match j,I with
   | 0,I=>cases I;rw[show k*(Tt 9).size+0=k from by show k*1+0=k;omega];exact(ho w r).1 k t v) ?_
  by_cases d:t=s
  .have B:s∈Src.iC:=d▸l6 v
   simp only[go_sem,a,d];exact(C9 B).symm
  .simp only[go_sem,a,b,d,r]
   refine ah (n-1) a7 ⟨k+1,a7,?_⟩;simp only[go_sem,a];rw[D0,v];simp[u,B8 d]
 .obtain rfl:k=10:=a7
  rw[s6 (by rw[y];decide)]at u;simp only[go_sem,a,b,show ¬((10:Nat):Int)<10 by decide];exact(A4 u).symm
def sE(s:Str):Src.R (Nat×Str×Nat):=if 20<z s then .err 2 else if s∈Src.iC then .ok (3,s,0)else .ok (1,s,0)
def Ig{o:cF}(ho:jS o)(s:Str):bP Tryz.prog 1 o 186 [sv s] (·=qu (sE s)):=by
 refine hdG Tryz.func186 rfl [.cell 2 179,.tmp 3] λO bn s0 w0 g=>?_;unfold sE;by_cases b:20<z s
 .have a:(20:Int)<(z s:Int):=a7
  rw[l8 b];simp only[go_sem,a,fe];exact⟨_,dE (k:=0) (v:=0) (e:=2),rfl⟩
 have a:¬(20:Int)<(z s:Int):=a7;rw[j8 b];simp only[go_sem,a];refine cG rfl (by simp only[go_sem];exact zL ho s) ?_;rintro _ rfl;by_cases d:s∈Src.iC
 .rw[l8 d,C9 d]
  simp only[go_sem,fe];exact⟨_,dE (k:=3) (v:=0) (e:=0),rfl⟩
 .rw[j8 d,A4 d]
  simp only[go_sem,fe];exact⟨_,dE (k:=1) (v:=0) (e:=0),rfl⟩
end
end Go.Proofs.YtlacbjnmkhndiaaGreatDoor

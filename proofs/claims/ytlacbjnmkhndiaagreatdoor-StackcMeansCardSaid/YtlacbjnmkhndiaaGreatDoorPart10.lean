/- A part of the proof; no conditions. -/
import Derived.Test.YtlacbjnmkhndiaaGreatDoorPart9
set_option linter.unusedSimpArgs false
set_option linter.unusedVariables false
set_option linter.defProp false
open List renaming length -> z
open Option renaming some -> S, none -> N
open Bool renaming true -> T, false -> F
set_option maxHeartbeats 64000000
set_option maxRecDepth 100000
namespace Go.Proofs.YtlacbjnmkhndiaaGreatDoor
section
attribute [local congr] Go.Am.ite_cc
open Go Go.Am Go.Asm
section
def Nm:Option Str->Src.R (Nat×Str×Nat)
 |some t=>.ok (4,t,0)
 |none=>.err 3
def nW(c:UInt8)(r:Str):Src.firstT (c::r)=if digit c=T then(if 4294967295<iO ((c::r).takeWhile digit)then .err 2 else .ok (2,(c::r).takeWhile digit,iO ((c::r).takeWhile digit)))
  else if c=39 then sD (c::r)else if letter c=T then sE ((c::r).takeWhile ew)
  else Nm (Src.Py.find? λt=>t.isPrefixOf (c::r)):=by
 unfold Src.firstT sE;by_cases hd:digit c=T
 .simp only[hd,B1]
 simp only[hd,A8];by_cases a:c=39
 .simp only[a,B1]
  match r with
  |[]=>rfl
  |[_]=>rfl
  |x::y::r=>rfl
 .simp only[a,A8]
  rfl
def EA{A:Type}{p:A->Bool}{l:List A}{k:Nat}{x:A}(h:∀y∈l.take k,p y=F)(I:l[k]?=S x)(b:p x=T):l.find? p=S x:=by
 have a:=(l5.1 I).1;rw[<-H3 k l,List.find?_append,List.find?_eq_none.2 (λy c=>by rw[h y c];simp)]
 have:l.drop k=x::l.drop (k+1):=by
  rw[C1 a];congr 1;exact G6 ((v8 a).symm.trans I)
 rw[this,List.find?_cons,b];rfl
def uP{k v:Nat}{t:Str}:qu (.ok (k,t,v))=.tup [.agg [.d (.int .i64 (k:Nat)),.d (.str t),.d (.int .u32 (v:Nat)),.d (.int .i64 ((0:Nat):Int))],iv .i64 0]:=rfl
def uQ{e:Nat}:qu (.err e)=.tup [.agg [.d (.int .i64 ((0:Nat):Int)),.d (.str []),.d (.int .u32 ((0:Nat):Int)),.d (.int .i64 ((0:Nat):Int))],iv .i64 (e:Nat)]:=rfl
variable{o:cF}
def zM(c:UInt8)(s:Str)(a:s[0]?=S c)(b:z s<=1000000)(hd:digit c=T){x:Src.R (Nat×Str×Nat)}(I:(if 4294967295<iO (s.takeWhile digit)then .err 2 else .ok (2,s.takeWhile digit,iO (s.takeWhile digit)))=x):
  bP Tryz.prog 1 o 145 [sv s] (·=qu x):=by
 refine hdG Tryz.func145 rfl [.cell 2 179,.tmp 3] λO bn s0 w0 g=>?_;have hD:=lO c;rw[hd]at hD;have hl:=C8 (P0 digit (l:=s)).length_le b;have hN:=By (s.takeWhile digit) a7 List.all_takeWhile;rw[I]at hN;have ar:=tg lO s a7;generalize s.takeWhile digit=u at hN ar I;simp only[go_sem,a];refine ip rfl W5 ?_;rintro _ rfl;simp only[go_sem];refine ip rfl (by simp only[go_sem];exact ar) ?_;rintro _ rfl;simp only[go_sem];refine ip rfl Wd ?_;rintro _ rfl;cases x with
 |ok y=>
   exact SA
 |err e=>
   exact T8
def Bz(s:Str)(a:s[0]?=S 39):bP Tryz.prog 1 o 145 [sv s] (·=qu (sD s)):=by
 refine hdG Tryz.func145 rfl [.cell 2 179,.tmp 3] λO bn s0 w0 g=>?_;have hD:=lO 39;rw[show digit 39=F from rfl]at hD;have b:(((39:UInt8).toNat:Nat):Int)=39:=rfl;have hB:=If s;generalize sD s=x at hB|-;simp only[go_sem,a];refine ip rfl W5 ?_;rintro _ rfl;simp only[go_sem,b];refine ip rfl WH ?_;rintro _ rfl;cases x with
 |ok y=>
   exact SA
 |err e=>
   exact T8
def BA(ho:jS o)(c:UInt8)(s:Str)(b:s[0]?=S c)(j:z s<=1000000)(hd:digit c=F)(a:c≠39)(hl:letter c=T):
  bP Tryz.prog 1 o 145 [sv s] (·=qu (sE (s.takeWhile ew))):=by
 refine hdG Tryz.func145 rfl [.cell 2 179,.tmp 3] λO bn s0 w0 g=>?_;have hD:=lO c;rw[hd]at hD;have hL:=oY c;rw[hl]at hL;have i:¬((c.toNat:Nat):Int)=39:=pk (d:=39) a;have ar:=tg wz s a7;have hN:=Ig ho (s.takeWhile ew);generalize s.takeWhile ew=u at hN ar|-;generalize sE u=x at hN|-;simp only[go_sem,b];refine ip rfl W5 ?_;rintro _ rfl;simp only[go_sem,i];refine ip rfl VU ?_;rintro _ rfl;simp only[go_sem];refine ip rfl (by simp only[go_sem];exact ar) ?_;rintro _ rfl;simp only[go_sem];refine cG rfl Wd ?_;rintro _ rfl;cases x with
 |ok y=>
   exact SA
 |err e=>
   exact T8
def BB(ho:jS o)(c:UInt8)(s:Str)(U:s[0]?=S c)(hd:digit c=F)(a:c≠39)(hl:letter c=F){x:Option Str}(I:Src.Py.find? (λt=>t.isPrefixOf s)=x):
  bP Tryz.prog 1 o 145 [sv s] (·=qu (Nm x)):=by
 refine hdG Tryz.func145 rfl [.cell 2 179,.tmp 3] λO bn s0 w0 g=>?_;have hD:=lO c;rw[hd]at hD;have hL:=oY c;rw[hl]at hL;have V:¬((c.toNat:Nat):Int)=39:=pk (d:=39) a;have W:z Src.Py=24:=rfl;simp only[go_sem,U];refine ip rfl W5 ?_;rintro _ rfl;simp only[go_sem,V];refine ip rfl VU ?_;rintro _ rfl;simp only[go_sem];refine aw (λn K=>∃k:Nat,n+k=24/\K.f 0=sv s/\K.f 31=iv .i64 k/\K.f 2=.one (.ptr 2 (nxC 180 (g 2)) 0)/\K.gen 2=nxC 180 (g 2)/\K.obj 2=S [.d (.int .i64 0),.d (.str []),.d (.int .u32 0),.d (.int .i64 0)]/\∀t∈Src.Py.take k,t.isPrefixOf s=F) 24 ?_ ?_
 .refine⟨0,rfl,?_⟩
  simp only[go_sem];simp
 rintro n f Z ob ⟨k,hk,A,b,B,E,H,u⟩;simp only at A b B E H;have J:=ac (k:=k) a7;by_cases Q:k<24
 .have G:(k:Int)<24:=a7
  obtain⟨t,L⟩:=getq (l:=Src.Py) (k:=k) a7;have hP:=sC s t
  have m:∀w:World,sJ 1 o w->∀(j:Nat)(x:D),([D.str t]:List D)[j]?=S x->w.cell? ⟨0,k*(Tt 9).size+j,N⟩=S (dV x):=λw J j x I=>by
   match j,I with
   |0,I=>cases I;rw[show k*(Tt 9).size+0=k from by show k*1+0=k;omega];exact(ho w J).2 k t L
  simp only[go_sem,A,b,G];refine rm aE (λs X ds w h=>h.1.2) aA (n:=24) (e:=9) rfl rfl b9 (kd:=.i64) (i:=k) (by simp only[go_sem,b]) Q (cs:=[.str t]) (λj x I=>by match j,I with|0,I=>cases I;rfl) m ?_;simp only[go_sem,A];refine ip rfl Xp ?_;rintro _ rfl;cases hp:t.isPrefixOf s
  .simp only[go_sem,b,J]
   refine ah (n-1) a7 ⟨k+1,a7,?_⟩;simp only[go_sem,A,B,E,H];rw[D0,L];intro x I;rcases C4.1 I with I|I
   .exact u x I
   .simp at I;rw[I];exact hp
  .rw[EA (p:=λt=>t.isPrefixOf s) u L hp]at I
   subst I;simp only[go_sem,b,G];refine rm aE (λs X ds w h=>h.1.2) aA (n:=24) (e:=9) rfl rfl b9 (kd:=.i64) (i:=k) (by simp only[go_sem,b]) Q (cs:=[.str t]) (λj x I=>by match j,I with|0,I=>cases I;rfl) m ?_;simp only[go_sem,B,E,H];exact⟨_,dE (k:=4) (v:=0) (e:=0),rfl⟩
 .obtain rfl:k=24:=a7
  rw[s6 (by rw[W];decide)]at u;rw[List.find?_eq_none.2 (λy Y=>by rw[u y Y];simp)]at I;subst I;simp only[go_sem,A,b,B,E,H,show ¬((24:Nat):Int)<24 by decide];exact z8
def LC(ho:jS o)(c:UInt8)(r:Str)(b:z (c::r)<=1000000):bP Tryz.prog 1 o 145 [sv (c::r)] (·=qu (Src.firstT (c::r))):=by
 rw[nW];cases hd:digit c with
 |true=>rw[l8 rfl];exact zM c (c::r) rfl b hd rfl
 |false=>
   rw[j8 a8];by_cases a:c=39
   .rw[l8 a];exact Bz (c::r) (by rw[a];rfl)
   .rw[j8 a]
    cases hl:letter c with
    |true=>rw[l8 rfl];exact BA ho c (c::r) rfl b hd a hl
    |false=>rw[j8 a8];exact BB ho c (c::r) rfl hd a hl rfl
end
end
end Go.Proofs.YtlacbjnmkhndiaaGreatDoor

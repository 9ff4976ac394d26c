/- A part of the proof; no conditions. -/
import Derived.Test.YtlglgadejgdpcaaGreatDoorPart6
import Derived.Handed
import Derived.Lay
import Derived.LaidMore
import Derived.SevenTiedAt
import Derived.Stop.Joined
import Derived.DefersIn
import Derived.RecoverIn
set_option linter.unusedSimpArgs false
set_option linter.unusedVariables false
set_option maxHeartbeats 64000000
set_option maxRecDepth 100000
namespace Go.Proofs.YtlglgadejgdpcaaGreatDoor
section
attribute [local congr] Go.Am.ite_cc
open Go Go.Am Go.Asm
section
def Ii:Option Str→Src.R (Nat×Str×Nat)
 |some t=>.ok (4,t,0)
 |none=>.err 3
theorem lY (c:UInt8) (r:Str):Src.firstT (c::r)=if digit c=true then(if 4294967295<fX ((c::r).takeWhile digit) then .err 2 else .ok (2,(c::r).takeWhile digit,fX ((c::r).takeWhile digit)))
  else if c=39 then pY (c::r) else if letter c=true then pZ ((c::r).takeWhile il)
  else Ii (Src.Kn.find? fun t=>t.isPrefixOf (c::r)):=by
 unfold Src.firstT pZ
 by_cases hd:digit c=true
 ·simp only[hd,A4]
 simp only[hd,A3]
 by_cases h39:c=39
 ·simp only[h39,A4]
  match r with
  |[]=>rfl
  |[_]=>rfl
  |x::y::r=>rfl
 ·simp only[h39,A3]
  rfl
theorem AL {α:Type}{p:α→Bool}{l:List α}{k:Nat}{x:α} (h:∀y∈l.take k,p y=false) (hx:l[k]? = some x) (hp:p x=true):l.find? p=some x:=by
 have hk:=(l5.1 hx).1
 rw[←G2 k l,List.find?_append,List.find?_eq_none.2 (fun y hy=>by rw[h y hy];simp)]
 have:l.drop k=x::l.drop (k+1):=by
  rw[A0 hk]
  congr 1
  exact C3 ((u3 hk).symm.trans hx)
 rw[this,List.find?_cons,hp]
 rfl
theorem rB {k v:Nat}{t:Str}:nM (.ok (k,t,v))=.tup [.agg [.d (.int .i64 (k:Nat)),.d (.str t),.d (.int .u32 (v:Nat)),.d (.int .i64 ((0:Nat):Int))],iv .i64 0]:=rfl
theorem rC {e:Nat}:nM (.err e)=.tup [.agg [.d (.int .i64 ((0:Nat):Int)),.d (.str []),.d (.int .u32 ((0:Nat):Int)),.d (.int .i64 ((0:Nat):Int))],iv .i64 (e:Nat)]:=rfl
variable {o:bF}
theorem wH (c:UInt8) (s:Str) (h0:s[0]? = some c) (hs:s.length≤1000000) (hd:digit c=true) {x:Src.R (Nat×Str×Nat)} (hx:(if 4294967295<fX (s.takeWhile digit) then .err 2 else .ok (2,s.takeWhile digit,fX (s.takeWhile digit)))=x) :
  bj Tryz.prog 3 o 77 [sv s] (· = nM x):=by
 refine ap 0 3 o ae mixed Tryz.func77 rfl b9 [.cell 2 108,.tmp 3] rfl c9 c9 (by simp[Tryz.ntmps77]) fun b₀ β0 s0 w0 g=>?_
 have hD:=kn c
 rw[hd] at hD
 have hl:=A9 (O6 digit (l:=s)).length_le hs
 have hN:=yh (s.takeWhile digit) a7 List.all_takeWhile
 rw[hx] at hN
 have hfr:=qy kn s a7
 generalize s.takeWhile digit=u at hN hfr hx
 simp only[go_sem,h0]
 refine aR ab rfl (by simp only[go_sem];exact hD) (by simp only[go_sem];rfl) ?_
 rintro _ rfl
 simp only[go_sem]
 refine aR ab rfl (by simp only[go_sem];exact hfr) (by simp only[go_sem];rfl) ?_
 rintro _ rfl
 simp only[go_sem]
 refine aR ab rfl (by simp only[go_sem];exact hN) (by simp only[go_sem];rfl) ?_
 rintro _ rfl
 cases x with
 |ok y=>
   obtain⟨k,t,v⟩:=y
   rw[rB]
   simp only[go_sem]
   exact⟨_,cF (e:=0),rfl⟩
 |err e=>
   rw[rC]
   simp only[go_sem]
   exact⟨_,cF (k:=0) (v:=0),rfl⟩
theorem yk (s:Str) (h0:s[0]? = some 39):bj Tryz.prog 3 o 77 [sv s] (· = nM (pY s)):=by
 refine ap 0 3 o ae mixed Tryz.func77 rfl b9 [.cell 2 108,.tmp 3] rfl c9 c9 (by simp[Tryz.ntmps77]) fun b₀ β0 s0 w0 g=>?_
 have hD:=kn 39
 rw[show digit 39=false from rfl] at hD
 have hi:(((39:UInt8).toNat:Nat):Int)=39:=rfl
 have hB:=Dw s
 generalize pY s=x at hB ⊢
 simp only[go_sem,h0]
 refine aR ab rfl (by simp only[go_sem];exact hD) (by simp only[go_sem];rfl) ?_
 rintro _ rfl
 simp only[go_sem,hi]
 refine aR ab rfl (by simp only[go_sem];exact hB) (by simp only[go_sem];rfl) ?_
 rintro _ rfl
 cases x with
 |ok y=>
   obtain⟨k,t,v⟩:=y
   rw[rB]
   simp only[go_sem]
   exact⟨_,cF (e:=0),rfl⟩
 |err e=>
   rw[rC]
   simp only[go_sem]
   exact⟨_,cF (k:=0) (v:=0),rfl⟩
theorem yl (ho:gv o) (c:UInt8) (s:Str) (h0:s[0]? = some c) (hs:s.length≤1000000) (hd:digit c=false) (h39:c≠39) (hl:letter c=true) :
  bj Tryz.prog 3 o 77 [sv s] (· = nM (pZ (s.takeWhile il))):=by
 refine ap 0 3 o ae mixed Tryz.func77 rfl b9 [.cell 2 108,.tmp 3] rfl c9 c9 (by simp[Tryz.ntmps77]) fun b₀ β0 s0 w0 g=>?_
 have hD:=kn c
 rw[hd] at hD
 have hL:=mA c
 rw[hl] at hL
 have hi:¬((c.toNat:Nat):Int)=39:=mN (d:=39) h39
 have hfr:=qy tH s a7
 have hN:=Dx ho (s.takeWhile il)
 generalize s.takeWhile il=u at hN hfr ⊢
 generalize pZ u=x at hN ⊢
 simp only[go_sem,h0]
 refine aR ab rfl (by simp only[go_sem];exact hD) (by simp only[go_sem];rfl) ?_
 rintro _ rfl
 simp only[go_sem,hi]
 refine aR ab rfl (by simp only[go_sem];exact hL) (by simp only[go_sem];rfl) ?_
 rintro _ rfl
 simp only[go_sem]
 refine aR ab rfl (by simp only[go_sem];exact hfr) (by simp only[go_sem];rfl) ?_
 rintro _ rfl
 simp only[go_sem]
 refine aj ab (fun s β ds w h=>h.1.2) rfl (by simp only[go_sem];exact hN) (by simp only[go_sem];rfl) ?_
 rintro _ rfl
 cases x with
 |ok y=>
   obtain⟨k,t,v⟩:=y
   rw[rB]
   simp only[go_sem]
   exact⟨_,cF (e:=0),rfl⟩
 |err e=>
   rw[rC]
   simp only[go_sem]
   exact⟨_,cF (k:=0) (v:=0),rfl⟩
theorem ym (ho:gv o) (c:UInt8) (s:Str) (h0:s[0]? = some c) (hd:digit c=false) (h39:c≠39) (hl:letter c=false) {x:Option Str} (hx:Src.Kn.find? (fun t=>t.isPrefixOf s)=x) :
  bj Tryz.prog 3 o 77 [sv s] (· = nM (Ii x)):=by
 refine ap 0 3 o ae mixed Tryz.func77 rfl b9 [.cell 2 108,.tmp 3] rfl c9 c9 (by simp[Tryz.ntmps77]) fun b₀ β0 s0 w0 g=>?_
 have hD:=kn c
 rw[hd] at hD
 have hL:=mA c
 rw[hl] at hL
 have hi:¬((c.toNat:Nat):Int)=39:=mN (d:=39) h39
 have hsl:Src.Kn.length=24:=rfl
 simp only[go_sem,h0]
 refine aR ab rfl (by simp only[go_sem];exact hD) (by simp only[go_sem];rfl) ?_
 rintro _ rfl
 simp only[go_sem,hi]
 refine aR ab rfl (by simp only[go_sem];exact hL) (by simp only[go_sem];rfl) ?_
 rintro _ rfl
 simp only[go_sem]
 refine ak (fun n st=>∃k:Nat,n+k=24∧st.f 0=sv s∧st.f 31=iv .i64 k∧st.f 2=.one (.ptr 2 (nxC 109 (g 2)) 0)∧st.gen 2=nxC 109 (g 2)∧st.obj 2=some [.d (.int .i64 0),.d (.str []),.d (.int .u32 0),.d (.int .i64 0)]∧∀t∈Src.Kn.take k,t.isPrefixOf s=false) 24 ?_ ?_
 ·refine⟨0,rfl,?_⟩
  simp only[go_sem]
  simp
 rintro n f g' ob ⟨k,hk,q0,q31,q2,g2,o2,hno⟩
 simp only at q0 q31 q2 g2 o2
 have hw:=am (k:=k) a7
 by_cases hlt:k<24
 ·have hlti:(k:Int)<24:=a7
  obtain⟨t,ht⟩:=getq (l:=Src.Kn) (k:=k) a7
  have hP:=pW s t
  have hrow:∀w:World,nf 3 o w→∀(j:Nat) (x:D),([D.str t]:List D)[j]? = some x→w.cell? ⟨1,k*(Tt 9).size+j,none⟩=some (dV x):=fun w hw j x hx=>by
   match j,hx with
   |0,hx=>cases hx;rw[show k*(Tt 9).size+0=k from by show k*1+0=k;omega];exact(ho w hw).2 k t ht
  simp only[go_sem,q0,q31,hlti]
  refine jV ab (fun s β ds w h=>h.1.2) ae (n:=24) (e:=9) rfl rfl c8 (kd:=.i64) (i:=k) (by simp only[go_sem,q31]) hlt (cs:=[.str t]) (fun j x hx=>by match j,hx with|0,hx=>cases hx;rfl) hrow ?_
  simp only[go_sem,q0]
  refine aR ab rfl (by simp only[go_sem];exact hP) (by simp only[go_sem];rfl) ?_
  rintro _ rfl
  cases hp:t.isPrefixOf s
  ·simp only[go_sem,q31,hw]
   refine ai (n-1) a7 ⟨k+1,a7,?_⟩
   simp only[go_sem,q0,q2,g2,o2]
   rw[A7,ht]
   intro x hx
   rcases C8.1 hx with hx|hx
   ·exact hno x hx
   ·simp at hx;rw[hx];exact hp
  ·rw[AL (p:=fun t=>t.isPrefixOf s) hno ht hp] at hx
   subst hx
   simp only[go_sem,q31,hlti]
   refine jV ab (fun s β ds w h=>h.1.2) ae (n:=24) (e:=9) rfl rfl c8 (kd:=.i64) (i:=k) (by simp only[go_sem,q31]) hlt (cs:=[.str t]) (fun j x hx=>by match j,hx with|0,hx=>cases hx;rfl) hrow ?_
   simp only[go_sem,q2,g2,o2]
   exact⟨_,cF (k:=4) (v:=0) (e:=0),rfl⟩
 ·obtain rfl:k=24:=a7
  rw[l6 (by rw[hsl];decide)] at hno
  rw[List.find?_eq_none.2 (fun y hy=>by rw[hno y hy];simp)] at hx
  subst hx
  simp only[go_sem,q0,q31,q2,g2,o2,show ¬((24:Nat):Int)<24 by decide]
  exact⟨_,cF (k:=0) (v:=0) (e:=3),rfl⟩
theorem GN (ho:gv o) (c:UInt8) (r:Str) (hs:(c::r).length≤1000000):bj Tryz.prog 3 o 77 [sv (c::r)] (· = nM (Src.firstT (c::r))):=by
 rw[lY]
 cases hd:digit c with
 |true=>rw[if_pos rfl];exact wH c (c::r) rfl hs hd rfl
 |false=>
   rw[if_neg a8]
   by_cases h39:c=39
   ·rw[if_pos h39];exact yk (c::r) (by rw[h39];rfl)
   ·rw[if_neg h39]
    cases hl:letter c with
    |true=>rw[if_pos rfl];exact yl ho c (c::r) rfl hs hd h39 hl
    |false=>rw[if_neg a8];exact ym ho c (c::r) rfl hd h39 hl rfl
end
def gL (l:List Src.Tok):D:=.sl (l.map kN)
def Ov (r:List Src.Tok×Nat×Nat):AV:=.tup [.one (.d (gL r.1)),iv .i64 (r.2.1:Nat),iv .i64 (r.2.2:Nat)]
def rD (l:List Src.Tok):List C:=l.flatMap fun t=>(kN t).map .d
theorem tM:∀l:List Src.Tok,(rD l).length=l.length*4
 |[]=>rfl
 |t::l=>by have ih:=tM l;unfold rD at ih ⊢;rw[B4,j5,ih];simp only[kN,j6,j7,j8];omega
theorem yn (l:List Src.Tok) (t:Src.Tok):rD (l++[t])=rD l++(kN t).map .d:=by unfold rD;rw[K8];simp
def sF (l:List Src.Tok):Src.R (List Src.Tok)×Nat→Src.R (List Src.Tok)×Nat
 |(.ok l',p)=>(.ok (l++l'),p)
 |(.err e,p)=>(.err e,p)
theorem Dy (x:Src.R (List Src.Tok)×Nat):sF [] x=x:=by obtain⟨a,b⟩:=x;cases a <;> rfl
theorem AM (l:List Src.Tok) (t:Src.Tok) (x:Src.R (List Src.Tok)×Nat):sF (l++[t]) x=sF l (sF [t] x):=by obtain⟨a,b⟩:=x;cases a <;> simp[sF]
theorem lZ {p:UInt8→Bool}:∀s:Str,s.drop (s.takeWhile p).length=s.dropWhile p
 |[]=>rfl
 |c::s=>by
   by_cases h:p c=true
   ·rw[I7,if_pos h,List.dropWhile_cons,if_pos h,j7,List.drop_succ_cons,lZ s]
   ·rw[I7,if_neg h,List.dropWhile_cons,if_neg h];rfl
theorem yo {s t:Str}{k v:Nat} (h:Src.firstT s=.ok (k,t,v)):0<t.length∧t.length≤s.length∧v<4294967296∧k≤4:=by
 have hall:(Src.Kn.all fun t=>decide (0<t.length))=true:=c8
 cases s with
 |nil=>unfold Src.firstT at h;cases h
 |cons c r=>
   rw[lY] at h
   have hsub:∀p:UInt8→Bool,((c::r).takeWhile p).length≤(c::r).length:=fun p=>(O6 p).length_le
   split at h
   ·rename_i hd
    split at h
    ·cases h
    ·cases h
     refine⟨?_,hsub _,a7,c8⟩
     rw[I7,if_pos hd];simp
   ·split at h
    ·unfold pY at h
     split at h
     ·rename_i x y r' hx
      split at h
      ·cases h
       rename_i hh
       rw[hx]
       refine⟨a8,a8,?_,c8⟩
       omega
      ·cases h
     ·cases h
    ·split at h
     ·rename_i hl
      unfold pZ at h
      split at h
      ·cases h
      ·have h0:0<((c::r).takeWhile il).length:=by
        rw[I7,if_pos (by unfold il;rw[hl];rfl)];simp
       split at h <;> cases h <;> exact⟨h0,hsub _,c8,c8⟩
     ·cases hf:Src.Kn.find? fun t=>t.isPrefixOf (c::r) with
      |some t'=>
        rw[hf] at h
        cases h
        have hm:=Q2 hf
        have hp:=List.find?_some hf
        refine⟨G3 (s7.1 hall _ hm),?_,c8,c8⟩
        exact(M0.1 hp).length_le
      |none=>rw[hf] at h;cases h
theorem yp {s:Str}{e:Nat} (hs:s≠[]) (h:Src.firstT s=.err e):e=2∨e=3:=by
 cases s with
 |nil=>exact absurd rfl hs
 |cons c r=>
   rw[lY] at h
   split at h
   ·split at h
    ·cases h;exact .inl rfl
    ·cases h
   ·split at h
    ·unfold pY at h
     split at h
     ·split at h
      ·cases h
      ·cases h;exact .inr rfl
     ·cases h;exact .inr rfl
    ·split at h
     ·unfold pZ at h
      split at h
      ·cases h;exact .inl rfl
      ·split at h <;> cases h
     ·cases hf:Src.Kn.find? fun t=>t.isPrefixOf (c::r) with
      |some t'=>rw[hf] at h;cases h
      |none=>rw[hf] at h;cases h;exact .inr rfl
theorem Ow {o:bF} (ho:gv o) (s:Str):bj Tryz.prog 3 o 44 [sv s] (· = Ov (Src.pp s)):=by
 refine ap 0 3 o ae mixed Tryz.func44 rfl b9 [.tmp 2,.tmp 3,.tmp 4] rfl c9 c9 (by simp[Tryz.ntmps44]) fun b₀ β0 s0 w0 g=>?_
 unfold Src.pp
 by_cases hbig:20000<s.length
 ·have hbi:(20000:Int)<(s.length:Int):=a7
  rw[if_pos hbig]
  simp only[go_sem,hbi]
  exact⟨_,⟨_,⟨_,_,rfl,dy .nsl,_,_,rfl,dy _,_,_,rfl,dy _,rfl⟩,rfl⟩,rfl⟩
 have hbi:¬(20000:Int)<(s.length:Int):=a7
 rw[if_neg hbig]
 simp only[go_sem,hbi]
 refine ak (fun n st=>∃(k:Nat) (m:Nat) (l:List Src.Tok),n+k=s.length∧(s.drop k).length<m∧Src.qa (s.length+1) 0 s=sF l (Src.qa m k (s.drop k))∧l.length≤k∧st.f 0=sv s∧st.f 6=iv .i64 k∧
  ((l=[]∧st.f 5=.one (.d .nsl))∨(l≠[]∧st.f 5=.one (.osl 61 (st.gen 61) 4 0 l.length)∧st.obj 61=some (rD l)))) s.length ?_ ?_
 ·refine⟨0,s.length+1,[],a7,a8,by rw[Dy];rfl,a8,?_⟩
  simp only[go_sem]
  exact .inl trivial
 rintro n f g' ob ⟨k,m,l,hk,hm,hL,hlk,q0,q6,q5⟩
 simp only at q0 q6 q5
 have hk0:(0:Int)≤(k:Int):=a7
 by_cases hlt:k<s.length
 case neg=>
  have hlti:¬(k:Int)<(s.length:Int):=a7
  rw[E8 a7] at hL
  obtain⟨m',rfl⟩:∃m',m=m'+1:=⟨m-1,a7⟩
  rw[hL]
  have hend:∀k,sF l (Src.qa (m'+1) k [])=(.ok l,0):=fun k=>by unfold Src.qa sF;simp
  rw[hend]
  rcases q5 with⟨rfl,q5⟩|⟨hne,q5,o5⟩
  ·simp only[go_sem,q0,q6,q5,hlti]
   exact⟨_,⟨_,⟨_,_,rfl,dy .nsl,_,_,rfl,dy _,_,_,rfl,dy _,rfl⟩,rfl⟩,rfl⟩
  ·simp only[go_sem,q0,q6,q5,hlti]
   exact⟨_,⟨_,⟨_,_,rfl,GI (cZ rfl l kN (by simp[upd,o5,rD]) rfl (fun t _ x hx=>by simp only[kN,x8,z7,E4] at hx;rcases hx with rfl|rfl|rfl|rfl <;> rfl) (fun _ _=>rfl) rfl),_,_,rfl,dy _,_,_,rfl,dy _,rfl⟩,rfl⟩,rfl⟩
 have hlti:(k:Int)<(s.length:Int):=a7
 obtain⟨c,hc⟩:=getq hlt
 have hdrop:s.drop k=c::s.drop (k+1):=by
  rw[A0 hlt]
  congr 1
  exact C3 ((u3 hlt).symm.trans hc)
 obtain⟨m',rfl⟩:∃m',m=m'+1:=⟨m-1,a7⟩
 have hml:(s.drop (k+1)).length<m':=by rw[hdrop] at hm;simp only[j7] at hm;omega
 have hw:=am (k:=k) a7
 have hgo:∀k r,Src.qa (m'+1) k (c::r)=if c=32∨c=9∨c=10 then Src.qa m' (k+1) r
   else if c=47∧r.head? = some 47 then Src.qa m' (k+((c::r).takeWhile (· != 10)).length) ((c::r).dropWhile (· != 10))
   else match Src.firstT (c::r) with
    |.err e=>(.err e,k)
    |.ok (kd,t,v)=>sF [⟨kd,t,v,k⟩] (Src.qa m' (k+t.length) ((c::r).drop t.length)):=by
  intro k r
  conv=>lhs;unfold Src.qa
  split
  ·rfl
  ·split
   ·rfl
   ·split
    ·rename_i h;rw[h]
    ·rename_i kd t v h
     rw[h]
     simp only
     rcases Src.qa m' (k+t.length) ((c::r).drop t.length) with⟨a,b⟩
     cases a <;> rfl
 rw[hdrop,hgo] at hL
 by_cases hbl:c=32∨c=9∨c=10
 ·rw[if_pos hbl] at hL
  have hstep:(((c.toNat:Nat):Int)=32)∨(¬((c.toNat:Nat):Int)=32∧((c.toNat:Nat):Int)=9)∨(¬((c.toNat:Nat):Int)=32∧¬((c.toNat:Nat):Int)=9∧((c.toNat:Nat):Int)=10):=by
   rcases hbl with rfl|rfl|rfl
   ·exact .inl rfl
   ·exact .inr (.inl ⟨c8,rfl⟩)
   ·exact .inr (.inr ⟨c8,c8,rfl⟩)
  rcases hstep with h1|⟨h1,h2⟩|⟨h1,h2,h3⟩
  case' inl=>simp only[go_sem,q0,q6,hlti,hc,hk0,h1,hw]
  case' inr.inl=>simp only[go_sem,q0,q6,hlti,hc,hk0,h1,h2,hw]
  case' inr.inr=>simp only[go_sem,q0,q6,hlti,hc,hk0,h1,h2,h3,hw]
  all_goals
   refine ai (n-1) a7 ⟨k+1,m',l,a7,hml,hL,a7,?_⟩
   simp only[go_sem,q0]
   exact q5
 rw[if_neg hbl] at hL
 have b1:¬((c.toNat:Nat):Int)=32:=mN (d:=32) fun h=>hbl (.inl h)
 have b2:¬((c.toNat:Nat):Int)=9:=mN (d:=9) fun h=>hbl (.inr (.inl h))
 have b3:¬((c.toNat:Nat):Int)=10:=mN (d:=10) fun h=>hbl (.inr (.inr h))
 have hsl:List.drop k (List.take s.length s)=s.drop k:=by rw[G4]
 have hdl:(s.drop k).length≤1000000:=by rw[D6];omega
 simp only[go_sem,q0,q6,hlti,hc,hk0,b1,b2,b3,hsl]
 refine⟨a7,a7,?_⟩
 refine aR ab rfl (by simp only[go_sem];exact pW (s.drop k) [47,47]) (by simp only[go_sem];rfl) ?_
 rintro _ rfl
 cases hp:([47,47]:Str).isPrefixOf (s.drop k)
 case true=>
  obtain⟨r2,hr2⟩:=M0.1 hp
  have hcm:c=47∧(s.drop (k+1)).head? = some 47:=by
   rw[hdrop] at hr2
   simp only[z6,x9,N4] at hr2
   exact⟨hr2.1.symm,by rw[←hr2.2];rfl⟩
  rw[if_pos hcm,←hdrop,←lZ,List.drop_drop] at hL
  have htl:((s.drop k).takeWhile (· != 10)).length≤(s.drop k).length:=(O6 _).length_le
  have ht1:1≤((s.drop k).takeWhile (· != 10)).length:=by
   rw[hdrop,I7,if_pos (by rw[hcm.1];rfl)];simp
  have hdl2:(s.drop k).length=s.length-k:=D6
  generalize hT:((s.drop k).takeWhile (· != 10)).length=T at hL htl ht1
  have hw2:IntKind.i64.wrap ((k:Int)+(T:Int))=((k+T:Nat):Int):=by rw[wrap_i64] <;> omega
  simp only[go_sem,q0,q6,hk0,hsl]
  refine⟨a7,a7,?_⟩
  refine aR ab rfl (by simp only[go_sem];exact qy GH (s.drop k) a7) (by simp only[go_sem];rfl) ?_
  rintro _ rfl
  simp only[go_sem,hT,hw2,q6]
  refine ai (n-T) a7 ⟨k+T,m',l,a7,by rw[D6];rw[D6] at hml;omega,hL,a7,?_⟩
  simp only[go_sem,q0]
  exact q5
 have hncm:¬(c=47∧(s.drop (k+1)).head? = some 47):=by
  rintro⟨h1,h2⟩
  rw[hdrop,h1] at hp
  cases hr:s.drop (k+1) with
  |nil=>rw[hr] at h2;cases h2
  |cons x y=>
    rw[hr] at h2 hp
    simp only[List.head?_cons,u2] at h2
    rw[h2] at hp
    simp[List.isPrefixOf] at hp
 rw[if_neg hncm] at hL
 have hF:=GN ho c (s.drop (k+1)) (by rw[←hdrop];exact hdl)
 rw[←hdrop] at hF hL
 simp only[go_sem,q0,q6,hk0,hsl]
 refine⟨a7,a7,?_⟩
 refine aj ab (fun s β ds w h=>h.1.2) rfl (by simp only[go_sem];exact hF) (by simp only[go_sem];rfl) ?_
 rintro _ rfl
 cases hf:Src.firstT (s.drop k) with
 |err e=>
   have he:e=2∨e=3:=yp (by rw[hdrop];simp) hf
   have hei:¬(e:Int)=0:=a7
   rw[hf] at hL
   simp only[sF] at hL
   rw[hL]
   unfold nM mF kN
   simp only[go_sem,l7,v7,hei,q6]
   exact⟨_,⟨_,⟨_,_,rfl,dy .nsl,_,_,rfl,dy _,_,_,rfl,dy _,rfl⟩,rfl⟩,rfl⟩
 |ok x=>
   obtain⟨kd,t,v⟩:=x
   obtain⟨t1,t2,t3,t4⟩:=yo hf
   rw[hf] at hL
   simp only at hL
   rw[List.drop_drop,←AM] at hL
   have hdl2:(s.drop k).length=s.length-k:=D6
   have hw2:IntKind.i64.wrap ((k:Int)+(t.length:Int))=((k+t.length:Nat):Int):=by rw[wrap_i64] <;> omega
   unfold nM mF kN
   rcases q5 with⟨rfl,q5⟩|⟨hne,q5,o5⟩
   ·simp only[go_sem,l7,v7,q6,q5,aD,hw2]
    refine⟨⟨c8,c8⟩,?_⟩
    refine ai (n-t.length) a7 ⟨k+t.length,m',[⟨kd,t,v,k⟩],a7,by rw[D6];rw[D6] at hml;omega,hL,by simp;omega,?_⟩
    simp only[go_sem,q0]
    first|exact .inr rfl|exact .inr ⟨by simp,rfl⟩|exact .inr ⟨by simp,rfl,rfl⟩
   ·have htc:=tM l
    simp only[go_sem,l7,v7,q6,q5,o5,aD,hw2]
    refine⟨a7,⟨c8,a7⟩,?_⟩
    refine ai (n-t.length) a7 ⟨k+t.length,m',l++[⟨kd,t,v,k⟩],a7,by rw[D6];rw[D6] at hml;omega,hL,by simp;omega,?_⟩
    simp only[go_sem,q0]
    refine .inr ⟨a8,a8,?_⟩
    rw[yn,l6 a7]
    rfl
end
end Go.Proofs.YtlglgadejgdpcaaGreatDoor
namespace Go.Am
section
section
abbrev Pan:=List PanicEntry→(Nat→Nat)→Obs→Prop
def Pan.on (Ψ:Pan):fF:=fun ch s=>Ψ ch s.gen s.obj
variable {R:AV→(Nat→Nat)→Obs→Prop}{K:St→Prop}
section
variable {P:Program}{T:Nat→TI}{b₀:Bs}{β:Loc}{w:World}{B:Nat}{Ψ:Pan}{rd:Option Nat}{Φ:St→Loc→List Deferred→World→Prop}
def IU (b₀:Bs) (β:Loc) (fa:Nat→AV) (g:Nat→Nat) (ob:Obs) (w:World) (R:AV→(Nat→Nat)→Obs→Prop) (Ψ:Pan) (e:Ending) (w':World):Prop:=
 (∃v r g' ob' β',e=.returned v∧R r g' ob'∧ag b₀ β' g' ob' w' r v∧
    (∀id cells,ob' id=some cells→bX b₀ β' g' ob' w' (g' id) cells (β' id))∧(∀id id' a a',(ob' id).isSome=true→(ob' id').isSome=true→β' id=some a→β' id'=some a'→a.block=a'.block→id=id')∧
    Tr b₀ β ⟨fa,g,ob⟩ w β' ⟨fa,g',ob'⟩ w')∨
 (∃ch g' ob' β',e=.panicked ch∧Ψ ch g' ob'∧
    (∀id cells,ob' id=some cells→bX b₀ β' g' ob' w' (g' id) cells (β' id))∧(∀id id' a a',(ob' id).isSome=true→(ob' id').isSome=true→β' id=some a→β' id'=some a'→a.block=a'.block→id=id')∧
    Tr b₀ β ⟨fa,g,ob⟩ w β' ⟨fa,g',ob'⟩ w')
def dF (P:Program) (f:FuncId) (xs:List AV) (g:Nat→Nat) (ob:Obs) (R:AV→(Nat→Nat)→Obs→Prop) (Ψ:Pan):Prop:=
 uu P f∧∀(b₀:Bs) (N:Nat) (β:Loc) (a:Act) (fa:Nat→AV) (w:World) (vs:List Value),Rel b₀ N ⟨fa,g,ob⟩ β a w→ax b₀ β g ob w xs vs→
  Calls P f vs.toArray w (IU b₀ β fa g ob w R Ψ)
theorem dF.mono {f:FuncId}{xs:List AV}{g:Nat→Nat}{ob:Obs}{R R':AV→(Nat→Nat)→Obs→Prop}{Ψ':Pan} (h:dF P f xs g ob R Ψ) (hr:∀r g' ob',R r g' ob'→R' r g' ob') (hp:∀ch g' ob',Ψ ch g' ob'→Ψ' ch g' ob'):dF P f xs g ob R' Ψ':=
 ⟨h.1,fun b₀ N β a fa w vs h1 h2=>(h.2 b₀ N β a fa w vs h1 h2).mono fun _ _ q=>q.imp (fun⟨v,r,g',ob',β',q1,q2,q3⟩=>⟨v,r,g',ob',β',q1,hr _ _ _ q2,q3⟩) (fun⟨ch,g',ob',β',q1,q2,q3⟩=>⟨ch,g',ob',β',q1,hp _ _ _ q2,q3⟩)⟩
def BC (b₀:Bs) (β0:Loc) (s0:St) (w0:World):St→Loc→List Deferred→World→Prop:=fun s β ds w=>ds=[]∧Tr b₀ β0 s0 w0 β s w
theorem aa {β0:Loc}{s0:St}{w0:World}:aE b₀ (BC b₀ β0 s0 w0):=fun _ _ _ _ _ _ _ h ht=>⟨h.1,h.2.trans ht⟩
theorem dU (B:Nat) (hT:aF P T) (hm:P.follows .mixedOrders=true) {f:FuncId}{fn:Func}{c:Code} (hf:P.funcs[f]? = some fn) (hb:fn.body=some c) (hn:(fn.name == "runtime.NumGoroutine")=false)
  (rs:List ResultVar) (hres:fn.results=rs.toArray) (hcm:eO c=true) (hok:codeOk fn.ntmps c=true) {xs:List AV} (hargs:xs.length≤fn.ntmps) {g:Nat→Nat}{ob:Obs}
  (h:∀b₀ β0 s0 w0,wpC (spF P none b₀ (BC b₀ β0 s0 w0) B Ψ.on) T c (bx (nC T rs R)) ⟨bY xs,g,ob⟩):dF P f xs g ob R Ψ:=by
 refine⟨⟨fn,hf,by rw[hb];rfl,hn⟩,fun b₀ N β a fa w vs hr0 hv=>?_⟩
 refine dS (n:=0) (callsIn_of_wp hf hb trivial ?_)
 have hr:=iw (N:=fn.ntmps) hargs hr0 hv
 refine wpIn_mono (bb (rd:=none) (B:=B) (ds:=[]) hT hm aa c hcm hok hr ⟨rfl,Tr.refl⟩ (h b₀ β ⟨bY xs,g,ob⟩ w)) (fun e a' w' hp=>?_)
 obtain⟨s',β',a0,ds',rfl,hQ,hr',rfl,ht⟩:=hp
 rcases hQ with hQ|⟨ch,rfl,hQ⟩
 ·have hres':nC T rs R .ret s'→∃v,(results fn a0.tmps).run P w'=.ok v w'∧IU b₀ β fa g ob w R Ψ (.returned v) w':=by
   rintro⟨s2,hvs,hR⟩
   obtain⟨β2,hr2,ht2⟩:=hvs b₀ fn.ntmps β' a0 w' hr'
   have hta:=ht.trans ht2
   obtain⟨v,avs,h1,h2,h3,_⟩:=bS hT hr2 hres hR
   exact⟨v,h1,.inl ⟨v,_,_,_,β2,rfl,h2,h3,hr2.obj,hr2.inj,⟨hta.size,hta.old,hta.keep,hta.os⟩⟩⟩
  cases e with
  |normal=>exact⟨rfl,hres' hQ⟩
  |ret=>exact⟨rfl,hres' hQ⟩
  |exit id=>exact hQ.elim
  |goto l=>exact hQ.elim
  |panic ch=>exact hQ.elim
  |outgrown=>exact hQ.elim
 ·exact⟨rfl,.inr ⟨ch,_,_,β',rfl,hQ,hr'.obj,hr'.inj,⟨ht.size,ht.old,ht.keep,ht.os⟩⟩⟩
theorem zV (hΦ:aE b₀ Φ) {o:Oper}{s:St}{k:Box K}{f:FuncId}{args:Array Operand}{tys:Array TypeId} (ho:o.op=.call ⟨.value (.func f),args,tys⟩)
  (hp:dF P f (args.toList.map s.ev) s.gen s.obj R Ψ) (hk:∀r g' ob',R r g' ob'→K (St.put ⟨s.f,g',ob'⟩ o.dst r)):aS (spF P rd b₀ Φ B Ψ.on) o s k:=by
 refine⟨fun s'=>∃r g' ob',R r g' ob'∧s'=St.put ⟨s.f,g',ob'⟩ o.dst r,fun N β a ds w hr hφ hdst next Q hn hx=>?_,fun _ ⟨r,g',ob',hr,e⟩=>e▸hk r g' ob' hr⟩
 have hnd:aA o=true:=by simp[aA,ho]
 refine eL hnd ?_
 unfold Oper.wp
 rw[gk ho hp.1 w]
 simp only[Oper.upon]
 have:=hp.2 b₀ N β a s.f w (args.toList.map a.eval) hr (fc hr _)
 rw[show (args.toList.map a.eval).toArray=args.map a.eval from F7 a8] at this
 refine this.mono fun e w' hE=>?_
 rcases hE with⟨v,r,g',ob',β',he,hR,hv,h1,h2,h3⟩|⟨ch,g',ob',β',he,hΨ,h1,h2,h3⟩
 ·subst he
  obtain⟨k1,k2⟩:=eQ hr hdst hv h1 h2 h3
  exact⟨k1.defers,hn _ β' _ w' ⟨r,g',ob',hR,rfl⟩ k1 (hΦ _ _ _ _ _ _ _ hφ k2)⟩
 ·subst he
  have hk:dw b₀ β s.gen s.obj w β' g' ob' w':=h3.keep
  have ht:Tr b₀ β s w β' ⟨s.f,g',ob'⟩ w':=⟨h3.size,h3.old,hk,h3.os⟩
  exact hx ch ⟨s.f,g',ob'⟩ β' a w' hΨ ⟨hr.defers,hr.size,fun i=>ag.keep hk _ (hr.f i),h1,h2,A9 hr.base h3.size⟩ (hΦ _ _ _ _ _ _ _ hφ ht)
theorem xz {Ψ:fF}{o:Oper}{s:St}{k:Box K}{x:Operand} (ho:o.op=.panic x) {v:Value} (hv:∀(N:Nat) (β:Loc) (a:Act) (w:World),Rel b₀ N s β a w→(Instr.panic (a.eval x)).run P w=.halt (.panic v) w)
  (hk:Ψ [{ v,recovered:=false }] s):aS (spF P rd b₀ Φ B Ψ) o s k:=by
 refine⟨fun _=>False,fun N β a ds w hr hφ hdst next Q hn hx=>?_,fun _ h=>h.elim⟩
 have hnd:aA o=true:=by simp[aA,ho]
 refine eL hnd ?_
 unfold Oper.wp
 have:(execOp a.eval o).run P w=.halt (.panic v) w:=by
  simp[execOp,ho,hv N β a w hr,Result.andThen]
 rw[this]
 exact hx _ s β a w hk hr hφ
end
end
section
variable {K:St→Prop}{x:Operand}
section
variable {P:Program}{b₀:Bs}{rd:Option Nat}{Φ:St→Loc→List Deferred→World→Prop}{B:Nat}{Ψ:fF}
theorem qW (hΦ:aE b₀ Φ) {o:Oper}{s:St}{k:Box K}{t:TypeId} (ho:o.op=.makeInterface t x) {fs:Array Field} (hu:P.underlying t=some (.struct fs)) {kd:IntKind}{n:Int}
  (hx:s.ev x=.agg [.d (.int kd n)]) (hk:K (s.put o.dst (.exact (.iface t (.agg #[.int kd n]))))):aS (spF P rd b₀ Φ B Ψ) o s k:=by
 refine⟨fun s'=>s'=s.put o.dst (.exact (.iface t (.agg #[.int kd n]))),fun N β a ds w hr hφ hd next Q hn _=>?_,fun _ e=>e▸hk⟩
 refine eL (by simp[aA,ho]) ?_
 have hv:=hr.ev x
 rw[hx] at hv
 simp only[ag] at hv
 obtain⟨vs,h1,h2,h3⟩:=hv
 obtain⟨u,hu1,hu2⟩:=h3 0 _ rfl
 simp only[aw] at hu2
 obtain rfl:=hu2.inv_int
 have hvs:vs = #[.int kd n]:=by
  apply Array.ext_getElem?
  intro j
  match j with
  |0=>rw[hu1];rfl
  |j+1=>rw[H7 (by rw[h2];simp),H7 a8]
 subst hvs
 have hex:(execOp a.eval o).run P w=.ok (.value (.iface t (.agg #[.int kd n]))) w:=by
  simp[execOp,ho,h1,Instr.makeInterface,run_underlying hu]
 have hr':=hr.put hd (x:=.exact (.iface t (.agg #[.int kd n]))) (v:=.iface t (.agg #[.int kd n])) (by simp only[ag])
 exact cM hex ⟨hr'.defers,hn _ β _ w rfl hr' (hΦ _ _ _ _ _ _ _ hφ (Tr.same (St.put_gen _ _ _) (St.put_obj _ _ _) rfl))⟩
theorem qX {o:Oper}{s:St}{k:Box K} (ho:o.op=.panic x) {t:TypeId}{u:Value} (hx:s.ev x=.exact (.iface t u)) (hk:Ψ [{ v:=.iface t u,recovered:=false }] s):aS (spF P rd b₀ Φ B Ψ) o s k:=by
 refine xz ho (v:=.iface t u) (fun N β a w hr=>?_) hk
 have hv:=hr.ev x
 rw[hx] at hv
 simp only[ag] at hv
 rw[hv]
 simp[Instr.panic]
end
end
end
end Go.Am
namespace Go.Proofs.YtlglgadejgdpcaaGreatDoor
section
open Go Go.Am Go.Asm
end
end Go.Proofs.YtlglgadejgdpcaaGreatDoor
namespace Go.Am
section
open Go.ChangeShapes Go.WideShapes Go.ChangeAt Go.RowKit
section
variable {H:Type}{enc:TypeId×Value→H}
theorem lG {C:Checked}{os:Os}{f:FuncId}{fn:Func}{s:ChangeSpec}{conds:List PathCond}{laid:List (String×DataW Unit)} (own:ownKnob C.prog.godebug=none) (started:os.Started) (noInit:C.prog.inits.idxOf? f=none) (hfn:C.prog.funcs[f]? = some fn)
  (witness:∃(w:World) (tape:Tape) (i:Input),w.os=os∧(w.forCall tape i).Shaped C.prog∧i.vars=[]∧Input.okWide C.prog (w.forCall tape i) .any w.heap.size f i∧
    ((s.pre enc C.prog fn conds false (w.forCall tape i).memory i.args∧laidMetH C.prog laid (w.forCall tape i).memory)∧sizedMet enc C.prog fn (OpenSpec.ofChange s) false (w.forCall tape i).memory i.args)∧Assume.holds {} C.prog (lone (Frame.enter C.prog f i.args .normal) [] (w.forCall tape i)))
  (hvars:s.vars=[]) (hl:laidOutB C.prog=true) (hts:fn.params.toList.all (fun t=>C.prog.readableRec t&&decide (t<C.prog.types.size))=true) {tb:TypeId} (hres:fn.resultTypes = #[tb]) (htb:C.prog.underlying tb=some .bool)
  (hspec:∀ds:List (DataW H),ds.length=fn.params.toList.length→s.fn H ds = { results:=[.lit (.bool true)],args:=ds })
  (hcall:∀(W:World) (base:Nat) (args:Array Value) (ds:List (DataW H)) (ps:List MemPlace),laidMetH C.prog laid W→(∀(j:Nat) t v,fn.params[j]? = some t→args[j]? = some v→Value.okWide C.prog W .any base t v)→DataW.TrodAll enc C.prog W 0 (fun _=>true) true fn.params.toList args.toList ds ps→(DataW.weightsEach C.prog fn.params.toList ds).all (·≤reachBytes)=true→vh C.prog f args W) :
  ReturnsInHanded {} C os f .any (fun w args=>(s.pre enc C.prog fn conds false w args∧laidMetH C.prog laid w)∧sizedMet enc C.prog fn (OpenSpec.ofChange s) false w args) (s.post enc C.prog fn false true false false):=by
 refine returnsInHanded_of_change_and (X:=fun w _=>laidMetH C.prog laid w) (fun _ _ _ hh h=>h.of_heap hh) own started noInit hfn witness ?_
 intro W base args ds gs before hval hW hcnd hsz hX _
 have hW':=hW
 obtain⟨p,q,hA,hV,rfl,hfz,hnd⟩:=hW
 rw[hvars] at hV
 obtain⟨rfl,rfl⟩:=trodVars_none hV
 have hvt:s.plain.varTypes C.prog=[]:=by simp[ChangeSpec.plain,DataSpec.varTypes,hvars]
 rw[hvt,n0,n0] at hsz
 refine(hcall W base args ds p hX hval hA hsz).mono fun e W' ⟨he,hs,hb,ho⟩=>⟨_,he,?_⟩
 have hlt:∀x∈p,x.block<W.heap.size:=fun x hx=>hW'.lt x (by simp[hx])
 have hsp:s.fn H (ds++[]) = { results:=[.lit (.bool true)],args:=ds }:=by rw[n0];exact hspec ds (pK _ _ _ _ hA)
 refine⟨ds,[],p++[],[],p,[],hW',?_,?_,?_,EU hb ho _,fun h=>by cases h⟩
 ·rw[hsp,hres]
  exact trodAll_mk1 ⟨1,by simp[DataW.trod,htb,Value.cells]⟩
 ·rw[hsp]
  exact mI hl hb _ _ _ _ hts hlt hA
 ·rw[hsp,hvars]
  exact rfl
theorem sm {P:Program}{w:World}{gb:Nat}{o:bF} (hG:nf gb o w) {f:FuncId}{args:List AV} (h:bj P gb o f args (· = bv true)) {vs:List Value} (hv:RVs (fun b=>b<w.heap.size) w args vs):vh P f vs.toArray w:=by
 refine(h.2 _ w vs hG (fun _ h=>h) hv).mono fun e w' ⟨v,r,h1,h2,h3,h4,h5,h6⟩=>⟨?_,h3,h4,h5⟩
 subst h2
 simp only[RV] at h6
 obtain⟨x,hx,hr⟩:=h6
 cases hx
 cases hr
 exact h1
end
end
section
section
def kD (ops:Array Oper) (o:Oper) (s:St):Prop:=match o.guard with|none=>True|some (j,w)=>∃d,((ops[j]?).bind (·.dst))=some d∧s.f d=bv w
def GdE (ops:Array Oper) (e:Ent) (s:St):Prop:=match e.o.guard with|none=>True|some (j,w)=>∃d,((ops[j]?).bind (·.dst))=some d∧d∈e.rd∧s.f d=bv w
variable {ops:Array Oper}{s:St}{Q:Exit→St→Prop}
theorem GdE.ok{e:Ent}{s s':St} (h:GdE ops e s) (hr:∀r∈e.rd,s'.f r=s.f r):kD ops e.o s':=by
 unfold GdE at h
 unfold kD
 cases hg:e.o.guard with
 |none=>trivial
 |some p=>
   obtain⟨j,w⟩:=p
   rw[hg] at h
   obtain⟨d,h1,h2,h3⟩:=h
   exact⟨d,h1,by rw[hr d h2];exact h3⟩
def HC (S:Sp) (T:Nat→TI) (ops:Array Oper) (ids:List Nat) (e:Ent) (s:St) (v:AV) (m:List (Nat×Option (List C))):Prop:=Bp S T ids e s v m∧GdE ops e s
def HD (S:Sp) (T:Nat→TI) (ops:Array Oper) (e:Ent) (s:St) (K:St→Prop):Prop:=yC S T e.o s K∧GdE ops e s
def gX (S:Sp) (T:Nat→TI) (ops:Array Oper) (ids:List Nat):List Ent→St→{K:St→Prop}→Box K→Prop
 |[],s,K,_=>K s
 |e::r,s,K,k=>match e.full with
   |true=>HD S T ops e s K
   |false=>∃v m,(m.length=e.ef.length∧HC S T ops ids e s v m)∧gX S T ops ids r (eA ids e v m s) k
theorem qQ {S:Sp}{T:Nat→TI}{ops:Array Oper}{ids:List Nat}{K:St→Prop}{k:Box K}:∀(l:List Ent) (s:St),gX S T ops ids l s k→(∀i e,l[i]? = some e→e.full=true→i+1=l.length)→
  ∃t:Nat→St,t 0=s∧(∀i e,l[i]? = some e→e.full=false→∃v m,(m.length=e.ef.length∧HC S T ops ids e (t i) v m)∧t (i+1)=eA ids e v m (t i))∧(∀i e,l[i]? = some e→e.full=true→HD S T ops e (t i) K)∧
   ((∀(i:Nat) (e:Ent),l[i]? = some e→e.full=false)→K (t l.length))
 |[],s,h,_=>⟨fun _=>s,rfl,fun i e hi=>(by simp at hi),fun i e hi=>(by simp at hi),fun _=>h⟩
 |e::r,s,h,hl=>by
   unfold gX at h
   cases hf:e.full with
   |true=>
     rw[hf] at h
     have h0:=hl 0 e rfl hf
     have:r=[]:=y2 (by simpa using h0)
     subst this
     refine⟨fun _=>s,rfl,fun i e' hi hf'=>?_,fun i e' hi _=>?_,fun ha=>?_⟩
     ·cases i with
      |zero=>simp at hi;subst hi;rw[hf] at hf';cases hf'
      |succ i=>simp at hi
     ·cases i with
      |zero=>simp at hi;subst hi;exact h
      |succ i=>simp at hi
     ·have:=ha 0 e rfl;rw[hf] at this;cases this
   |false=>
     rw[hf] at h
     obtain⟨v,m,hs,hr⟩:=h
     obtain⟨t,t0,t1,t2,t3⟩:=qQ r _ hr (fun i e' hi hf'=>by have:=hl (i+1) e' (by simpa using hi) hf';simpa using this)
     refine⟨fun i=>match i with|0=>s|i+1=>t i,rfl,fun i e' hi hf'=>?_,fun i e' hi hf'=>?_,fun ha=>?_⟩
     ·cases i with
      |zero=>simp at hi;subst hi;exact⟨v,m,hs,t0⟩
      |succ i=>exact t1 i e' (by simpa using hi) hf'
     ·cases i with
      |zero=>simp at hi;subst hi;rw[hf] at hf';cases hf'
      |succ i=>exact t2 i e' (by simpa using hi) hf'
     ·exact t3 (fun i e' hi=>ha (i+1) e' (by rw[s9];exact hi))
def uk (ops:Array Oper) (tb:List (List Nat×List Nat×List Nat×Bool)) (nid:Nat) (tab:List (List Nat)):Bool:=
 nz ops&&IM ops tab&&(tb.length==ops.size) &&
 (List.range ops.size).all fun i=>(((ops[i]?).bind fun o=>(tb[i]?).map fun t=>
   (t.1.all fun r=>(List.range ops.size).all fun j=>eJ tab i j||((tb[j]?).map fun t'=>t'.2.2.2).getD false||((ops[j]?).map fun o'=>decide (o'.dst≠some r)).getD false) &&
   ((List.range ops.size).all fun j=>i==j||((ops[j]?).map fun o'=>o'.dst.isNone||decide (o'.dst≠o.dst)).getD false) &&
   ((List.range nid).all fun a=>t.2.1.contains a||(List.range ops.size).all fun j=>eJ tab i j||eJ tab j i||i==j||((tb[j]?).map fun t'=>!t'.2.2.1.contains a).getD false) &&
   (t.2.1.all fun a=>decide (a<nid))&&(t.2.2.1.all fun a=>decide (a<nid))&&(t.2.2.1.all fun a=>(List.range ops.size).all fun j=>eJ tab i j||eJ tab j i||i==j||((tb[j]?).map fun t'=>!t'.2.2.1.contains a).getD false) &&
   (!t.2.2.2||(i+1==ops.size&&(List.range i).all fun j=>eJ tab i j))).getD false)
def oK (ops:Array Oper) (tb:List (List Nat×List Nat×List Nat×Bool)) (nid:Nat):Bool:=uk ops tb nid (vm ops)
section
variable {P:Program}{T:Nat→TI}{b₀:Bs}{β:Loc}{w:World}
theorem BB {S:Sp} (ids:List Nat) (tb:List (List Nat×List Nat×List Nat×Bool)) (nid:Nat) (hok:oK ops tb nid=true) (hnid:ids.length=nid) (hnd:ids.Nodup)
  (h:gX S T ops ids (cW ops.toList tb) s (bx fun s'=>Q .normal s')):nz ops=true∧∃I:(Nat→Bool)→St→Prop,I (fun _=>false) s∧
    (∀(L:Nat→Bool) (s:St) (i:Nat) (o:Oper),I L s→ops[i]? = some o→L i=false→(∀e∈o.after.toList,Region.binds .any e=true→L e.on=true)→
      (∀j o',L j=true→ops[j]? = some o'→∀e∈o'.after.toList,Region.binds .any e=true→L e.on=true)→kD ops o s∧opA S T o s (bx fun s'=>I (upd L i true) s'))∧
    (∀L s',I L s'→(∀i,i<ops.size→L i=true)→Q .normal s'):=by
 subst hnid
 unfold oK uk at hok
 generalize vm ops=tab at hok
 simp only[l9,E7] at hok
 obtain⟨⟨⟨hbk,hcl⟩,htl⟩,hall⟩:=hok
 have hzl:(cW ops.toList tb).length=ops.size:=by rw[nB (by simpa using htl)];simp
 have hent:∀i,i<ops.size→∃e,(cW ops.toList tb)[i]? = some e∧ops[i]? = some e.o∧tb[i]? = some (e.rd,e.hd,e.ef,e.full):=fun i hi=>by
  have h1:i<(cW ops.toList tb).length:=a7
  refine⟨_,u3 h1,?_⟩
  have:=cL (u3 h1)
  simpa using this
 have hinj:∀a b,a<ids.length→b<ids.length→ids.getD a 0=ids.getD b 0→a=b:=fun a b ha hb e=>by
  rw[D2,D2,u3 ha,u3 hb] at e
  simp only[x6] at e
  exact(RA hnd).1 e
 -- the checks,by operation
 have hchk:∀(i:Nat) (e:Ent),i<ops.size→ops[i]? = some e.o→tb[i]? = some (e.rd,e.hd,e.ef,e.full)→
   (∀r∈e.rd,∀(j:Nat) (e':Oper),j<ops.size→ops[j]? = some e'→e'.dst=some r→(((tb[j]?).map fun t'=>t'.2.2.2).getD false)=false→eJ tab i j=true)∧
   (∀(j:Nat) (o':Oper),j<ops.size→j≠i→ops[j]? = some o'→o'.dst=none∨o'.dst≠e.o.dst)∧
   (∀a,a<ids.length→a∉e.hd→∀j t',j<ops.size→tb[j]? = some t'→a∈t'.2.2.1→eJ tab i j=true∨eJ tab j i=true∨i=j)∧
   (∀a∈e.hd,a<ids.length)∧(∀a∈e.ef,a<ids.length)∧
   (∀a∈e.ef,∀j t',j<ops.size→tb[j]? = some t'→a∈t'.2.2.1→eJ tab i j=true∨eJ tab j i=true∨i=j)∧
   (e.full=true→i+1=ops.size∧∀j,j<i→eJ tab i j=true):=by
  intro i e hi ho ht
  have h1:=s7.1 hall i (z8.2 hi)
  rw[ho,ht] at h1
  simp only[C7,w7,x6,l9] at h1
  obtain⟨⟨⟨⟨⟨⟨c1,c2⟩,c3⟩,c4⟩,c5⟩,c6⟩,c7⟩:=h1
  refine⟨fun r hr j o' hj hoj hd hfj=>?_,fun j o' hj hne hoj=>?_,fun a ha hna j t' hj htj hat=>?_,fun a ha=>?_,fun a ha=>?_,fun a ha j t' hj htj hat=>?_,fun hf=>?_⟩
  ·have:=s7.1 (s7.1 c1 r hr) j (z8.2 hj)
   rw[hoj,hfj] at this
   simp only[w7,x6,RO,B5,A5] at this
   rcases this with h|h
   ·exact h
   ·exact absurd hd h
  ·have:=s7.1 c2 j (z8.2 hj)
   rw[hoj] at this
   simp only[w7,x6,B5,A5,E7,M8] at this
   rcases this with h|h|h
   ·exact absurd h.symm hne
   ·exact .inl h
   ·exact .inr h
  ·have:=s7.1 c3 a (z8.2 ha)
   simp only[B5,F1,s7,z8] at this
   rcases this with h|h
   ·exact absurd h hna
   ·have:=h j hj
    rw[htj] at this
    simp only[w7,x6,E7,D4] at this
    rcases this with((h|h)|h)|h
    ·exact .inl h
    ·exact .inr (.inl h)
    ·exact .inr (.inr h)
    ·rw[F1.2 hat] at h;cases h
  ·exact G3 (s7.1 c4 a ha)
  ·exact G3 (s7.1 c5 a ha)
  ·have:=s7.1 (s7.1 c6 a ha) j (z8.2 hj)
   rw[htj] at this
   simp only[w7,x6,B5,E7,D4] at this
   rcases this with((h|h)|h)|h
   ·exact .inl h
   ·exact .inr (.inl h)
   ·exact .inr (.inr h)
   ·rw[F1.2 hat] at h;cases h
  ·rw[hf] at c7
   simp only[L6,N3,l9,E7,s7,z8] at c7
   exact c7
 have hfull:∀(i:Nat) (e:Ent),(cW ops.toList tb)[i]? = some e→e.full=true→i+1=(cW ops.toList tb).length:=fun i e hi hf=>by
  have hlt:i<ops.size:=by rw[←hzl];exact(l5.1 hi).1
  have h2:=cL hi
  rw[hzl]
  exact((hchk i e hlt (by simpa using h2.1) h2.2).2.2.2.2.2.2 hf).1
 obtain⟨t,t0,t1,t2,t3⟩:=qQ _ _ h hfull
 let dst:Nat→Option Nat:=fun i=>(ops[i]?).bind (·.dst)
 let ef:Nat→List Nat:=fun i=>((tb[i]?).map (·.2.2.1)).getD []
 -- how the trace goes
 have tf:∀(i:Nat) (e:Ent),i<ops.size→(cW ops.toList tb)[i]? = some e→e.full=false→∀d,dst i≠some d→(t (i+1)).f d=(t i).f d:=fun i e hi he hf d hd=>by
  obtain⟨v,m,_,h2⟩:=t1 i e he hf
  rw[h2]
  have h3:ops[i]? = some e.o:=by simpa using(cL he).1
  simp only[dst,h3,C7] at hd
  simp only[eA]
  cases hq:e.o.dst with
  |none=>rfl
  |some d'=>simp only[ly,upd];rw[if_neg (fun e'=>hd (by rw[hq,e']))]
 have tm:∀(i:Nat) (e:Ent),i<ops.size→(cW ops.toList tb)[i]? = some e→e.full=false→∀id,(∀a∈ef i,ids.getD a 0≠id)→(t (i+1)).gen id=(t i).gen id∧(t (i+1)).obj id=(t i).obj id:=fun i e hi he hf id hd=>by
  obtain⟨v,m,_,h2⟩:=t1 i e he hf
  rw[h2]
  have h3:=(cL he).2
  simp only[ef,h3,w7,x6] at hd
  simp only[eA]
  exact⟨cJ hd,cJ hd⟩
 -- how many are walked by themselves
 obtain⟨N,hN,hNf,hNl⟩:∃N,N≤ops.size∧(∀(i:Nat) (e:Ent),i<N→(cW ops.toList tb)[i]? = some e→e.full=false)∧(N=ops.size∨(N+1=ops.size∧∃e,(cW ops.toList tb)[N]? = some e∧e.full=true)):=by
  by_cases hlast:∃(i:Nat) (e:Ent),(cW ops.toList tb)[i]? = some e∧e.full=true
  ·obtain⟨i,e,he,hf⟩:=hlast
   have h1:=hfull i e he hf
   rw[hzl] at h1
   refine⟨i,a7,fun j e' hj hj'=>?_,.inr ⟨h1,e,he,hf⟩⟩
   cases hq:e'.full with
   |false=>rfl
   |true=>have:=hfull j e' hj' hq;rw[hzl] at this;omega
  ·refine⟨ops.size,l4 _,fun j e' hj hj'=>?_,.inl rfl⟩
   cases hq:e'.full with
   |false=>rfl
   |true=>exact absurd ⟨j,e',hj',hq⟩ hlast
 have tfs:∀(d k i:Nat),i≤k→k≤N→(∀j,i≤j→j<k→dst j≠some d)→(t k).f d=(t i).f d:=by
  intro d k
  induction k with
  |zero=>intro i hi _ _;rw[show i=0 by omega]
  |succ k ih=>
    intro i hi hk hd
    by_cases hik:i=k+1
    ·subst hik;rfl
    ·obtain⟨e,he,_,_⟩:=hent k a7
     rw[tf k e a7 he (hNf k e a7 he) d (hd k a7 a7)]
     exact ih i a7 a7 (fun j h1 h2=>hd j h1 a7)
 have tms:∀(id k i:Nat),i≤k→k≤N→(∀j,i≤j→j<k→∀a∈ef j,ids.getD a 0≠id)→(t k).gen id=(t i).gen id∧(t k).obj id=(t i).obj id:=by
  intro id k
  induction k with
  |zero=>intro i hi _ _;rw[show i=0 by omega];exact⟨rfl,rfl⟩
  |succ k ih=>
    intro i hi hk hd
    by_cases hik:i=k+1
    ·subst hik;exact⟨rfl,rfl⟩
    ·obtain⟨e,he,_,_⟩:=hent k a7
     obtain⟨m1,m2⟩:=tm k e a7 he (hNf k e a7 he) id (hd k a7 a7)
     rw[m1,m2]
     exact ih i a7 a7 (fun j h1 h2=>hd j h1 a7)
 have hdist:∀(i j d:Nat),i<ops.size→j<ops.size→dst i=some d→dst j=some d→i=j:=fun i j d hi hj h1 h2=>by
  rcases J7 i j with hij|hij
  ·exfalso
   obtain⟨e,he,ho,htb⟩:=hent i hi
   obtain⟨e',he',ho',htb'⟩:=hent j hj
   simp only[dst,ho,ho',C7] at h1 h2
   rcases(hchk i e hi ho htb).2.1 j e'.o hj a7 ho' with h|h
   ·rw[h] at h2;cases h2
   ·exact h (by rw[h1,h2])
  ·rcases J7 j i with hji|hji
   ·exfalso
    obtain⟨e,he,ho,htb⟩:=hent i hi
    obtain⟨e',he',ho',htb'⟩:=hent j hj
    simp only[dst,ho,ho',C7] at h1 h2
    rcases(hchk i e hi ho htb).2.1 j e'.o hj a7 ho' with h|h
    ·rw[h] at h2;cases h2
    ·exact h (by rw[h1,h2])
   ·omega
 -- where all have come up,it is the text's state
 have hsame:∀(k:Nat) (L:Nat→Bool) (s':St),k=N→(∀i,i<k→L i=true)→zL N dst ef ids t L s'→s'=t k:=by
  rintro k L ⟨f',g',o'⟩ rfl hL hI
  have h1:f'=(t k).f:=by
   funext d
   by_cases hd:∃i,i<k∧dst i=some d
   ·obtain⟨i,hi,hd⟩:=hd
    rw[show f' d=_ from hI.f i d hi hd (hL i hi)]
    exact(tfs d k (i+1) a7 (l4 _) (fun j h1 h2 h3=>by have:=hdist i j d a7 a7 hd h3;omega)).symm
   ·have h0:∀i,i<k→dst i≠some d:=fun i hi h=>hd ⟨i,hi,h⟩
    rw[show f' d=_ from hI.f0 d h0]
    exact(tfs d k 0 a7 (l4 _) (fun j _ h2=>h0 j h2)).symm
  have h2:g'=(t k).gen:=funext fun id=>(hI.m id k (l4 _) (fun j a hj _ _=>⟨fun _=>hj,fun _=>hL j hj⟩)).1
  have h3:o'=(t k).obj:=funext fun id=>(hI.m id k (l4 _) (fun j a hj _ _=>⟨fun _=>hj,fun _=>hL j hj⟩)).2
  rw[h1,h2,h3]
 refine⟨hbk,fun L s'=>(N<ops.size→L N=true→Q .normal s')∧((N<ops.size→L N=false)→zL N dst ef ids t L s'),?_,?_,?_⟩
 ·refine⟨fun _ h=>(by cases h),fun _=>⟨fun i d _ _ h=>(by cases h),fun d _=>by rw[t0],fun id k hk hc=>?_⟩⟩
  have:=tms id k 0 a7 hk (fun j _ hj a ha e=>by have:=(hc j a a7 ha e).2 hj;cases this)
  rw[this.1,this.2,t0]
  exact⟨rfl,rfl⟩
 ·intro L s' i o hI ho hL hdep hid
  have hi:=(A1.1 ho).1
  obtain⟨e,he,ho',htb⟩:=hent i hi
  obtain rfl:o=e.o:=by rw[ho] at ho';cases ho';rfl
  have hcls:=dn hcl hid i e.o ho hdep
  have hck:=hchk i e hi ho htb
  by_cases hiN:i<N
  ·have hLN:N<ops.size→L N=false:=fun hlt=>by
    cases hq:L N with
    |false=>rfl
    |true=>
      exfalso
      rcases hNl with h|⟨h,e2,he2,hf2⟩
      ·omega
      ·have hz:=cL he2
       have ho2:ops[N]? = some e2.o:=by simpa using hz.1
       have:=(hchk N e2 hlt ho2 hz.2).2.2.2.2.2.2 hf2
       have h3:=dn hcl hid N e2.o ho2 (fun e' he' hb'=>hid N _ hq ho2 e' he' hb') i (this.2 i hiN)
       rw[hL] at h3
       exact absurd h3.1 a8
   have hD:=hI.2 hLN
   obtain⟨v,m,⟨hml,hst,hgd⟩,hn⟩:=t1 i e he (hNf i e hiN he)
   have hr1:∀r∈e.rd,s'.f r=(t i).f r:=fun r hr=>by
    by_cases hd:∃j,j<N∧dst j=some r
    ·obtain⟨j,hj,hd⟩:=hd
     obtain⟨e2,he2,ho2,htb2⟩:=hent j a7
     have hd2:e2.o.dst=some r:=by simpa[dst,ho2] using hd
     obtain⟨hLj,hji⟩:=hcls j (hck.1 r hr j e2.o a7 ho2 hd2 (by rw[htb2];exact hNf j e2 hj he2))
     rw[hD.f j r hj hd hLj]
     exact(tfs r i (j+1) a7 a7 (fun k h1 h2 h3=>by have:=hdist j k r a7 a7 hd h3;omega)).symm
    ·have h0:∀j,j<N→dst j≠some r:=fun j hj h=>hd ⟨j,hj,h⟩
     rw[hD.f0 r h0]
     exact(tfs r i 0 a7 a7 (fun j _ h2=>h0 j a7)).symm
   have r1:maskf e.rd (t i).f s'.f=s'.f:=mY hr1
   have hvis:∀id,(∀a∈e.hd,ids.getD a 0≠id)→s'.gen id=(t i).gen id∧s'.obj id=(t i).obj id:=fun id hv=>by
    refine hD.m id i a7 (fun j a hj ha hai=>?_)
    obtain⟨e2,he2,ho2,htb2⟩:=hent j a7
    have ha2:a∈e2.ef:=by simpa[ef,htb2] using ha
    have halt:a<ids.length:=(hchk j e2 a7 ho2 htb2).2.2.2.2.1 a ha2
    rcases hck.2.2.1 a halt (fun h=>hv a h hai) j _ a7 htb2 ha2 with h|h|h
    ·have:=hcls j h
     exact⟨fun _=>this.2,fun _=>this.1⟩
    ·constructor
     ·intro hLj
      have:=dn hcl hid j e2.o ho2 (fun e' he' hb'=>hid j _ hLj ho2 e' he' hb') i h
      rw[hL] at this
      exact absurd this.1 a8
     ·intro hji
      exfalso
      have h1:=s7.1 hcl j (z8.2 a7)
      have h2:=s7.1 h1 i (by simpa[eJ] using h)
      simp only[l9,A5] at h2
      omega
    ·subst h
     rw[hL]
     exact⟨fun h=>(by cases h),fun h=>a7⟩
   have r2:maskm ids e.hd (t i).gen s'.gen=s'.gen:=gU fun id hv=>(hvis id hv).1
   have r3:maskm ids e.hd (t i).obj s'.obj=s'.obj:=gU fun id hv=>(hvis id hv).2
   have h1:=hst s'.f s'.gen s'.obj
   rw[r1,r2,r3] at h1
   refine⟨hgd.ok hr1,h1 _ ?_⟩
   refine⟨fun hlt h=>?_,fun _=>⟨fun j d hj hd hLj=>?_,fun d hd=>?_,fun id k hk hc=>?_⟩⟩
   ·simp only[upd] at h
    rw[if_neg a7,hLN hlt] at h
    cases h
   ·simp only[upd] at hLj
    by_cases hji:j=i
    ·subst hji
     have hd2:e.o.dst=some d:=by simpa[dst,ho] using hd
     rw[hn]
     simp only[eA,hd2,ly,upd,A4]
    ·rw[if_neg hji] at hLj
     have hne:e.o.dst≠some d:=fun h=>hji (hdist j i d a7 hi hd (by simpa[dst,ho] using h))
     rw[←hD.f j d hj hd hLj]
     simp only[eA]
     cases hq:e.o.dst with
     |none=>rfl
     |some d'=>simp only[ly,upd];rw[if_neg (fun e'=>hne (by rw[hq,e']))]
   ·rw[←hD.f0 d hd]
    have hne:e.o.dst≠some d:=fun h=>hd i hiN (by simpa[dst,ho] using h)
    simp only[eA]
    cases hq:e.o.dst with
    |none=>rfl
    |some d'=>simp only[ly,upd];rw[if_neg (fun e'=>hne (by rw[hq,e']))]
   ·have hef:ef i=e.ef:=by simp[ef,htb]
    by_cases hmine:∃a∈e.ef,ids.getD a 0=id
    ·obtain⟨a,ha,hai⟩:=hmine
     have hik:i<k:=(hc i a hiN (by rw[hef];exact ha) hai).1 (by simp[upd])
     have halt:=hck.2.2.2.2.1 a ha
     have:=tms id k (i+1) a7 hk (fun j h1 h2 b hb hbi=>by
      obtain⟨e2,he2,ho2,htb2⟩:=hent j a7
      have hb2:b∈e2.ef:=by simpa[ef,htb2] using hb
      have hblt:=(hchk j e2 a7 ho2 htb2).2.2.2.2.1 b hb2
      obtain rfl:a=b:=hinj a b halt hblt (by rw[hai,hbi])
      have hLj:L j=true:=by
       have:=(hc j a a7 hb hbi).2 h2
       simp only[upd] at this
       rwa [if_neg a7] at this
      rcases hck.2.2.2.2.2.1 a ha j _ a7 htb2 hb2 with h|h|h
      ·have:=(hcls j h).2;omega
      ·have:=dn hcl hid j e2.o ho2 (fun e' he' hb'=>hid j _ hLj ho2 e' he' hb') i h
       rw[hL] at this
       exact absurd this.1 a8
      ·omega)
     rw[this.1,this.2,hn]
     simp only[eA]
     exact⟨iZ (by simpa using hml) ⟨a,ha,hai⟩,iZ (by simpa using hml) ⟨a,ha,hai⟩⟩
    ·have hno:∀a∈e.ef,ids.getD a 0≠id:=fun a ha h=>hmine ⟨a,ha,h⟩
     simp only[eA]
     rw[cJ hno,cJ hno]
     refine hD.m id k hk (fun j a hj ha hai=>?_)
     have hji:j≠i:=fun h=>by subst h;rw[hef] at ha;exact hno a ha hai
     have:=hc j a hj ha hai
     simp only[upd] at this
     rwa [if_neg hji] at this
  ·have hiN':i=N:=by
    rcases hNl with h|⟨h,_⟩ <;> omega
   subst hiN'
   rcases hNl with h|⟨h,e2,he2,hf2⟩
   ·omega
   ·obtain rfl:e=e2:=by rw[he] at he2;cases he2;rfl
    have hD:=hI.2 (fun _=>hL)
    have hall2:∀j,j<i→L j=true:=fun j hj=>(hcls j ((hck.2.2.2.2.2.2 hf2).2 j hj)).1
    rw[hsame i L s' rfl hall2 hD]
    obtain⟨hla,hgd⟩:=t2 i e he hf2
    refine⟨hgd.ok fun _ _=>rfl,hla _ (fun s'' hs=>?_)⟩
    exact⟨fun _ _=>hs,fun hh=>by have:=hh hi;simp[upd] at this⟩
 ·intro L s' hI hL
  rcases hNl with h|⟨h,_⟩
  ·subst h
   have hD:=hI.2 (fun h=>absurd h a7)
   have h1:=t3 (fun i e he=>hNf i e (by rw[←hzl];exact(l5.1 he).1) he)
   rw[hzl] at h1
   rw[hsame _ L s' rfl hL hD]
   exact h1
  ·exact hI.1 a7 (hL N a7)
end
section
variable {P:Program}{T:Nat→TI}{b₀:Bs}{w:World}{rd:Option Nat}{Φ:St→Loc→List Deferred→World→Prop}{Ψ:fF}
theorem sU {hT:aF P T} (hΦ:aE b₀ Φ) {B N:Nat}{ops:Array Oper}{ds:List Deferred}{Q:Exit→Act→World→Prop} (hnd:ops.toList.all aA=true) (hds:dZ N ops.toList=true) (I:(Nat→Bool)→St→Prop)
  (hstep:∀(L:Nat→Bool) (s:St) (i:Nat) (o:Oper),I L s→ops[i]? = some o→L i=false→(∀e∈o.after.toList,Region.binds .any e=true→L e.on=true)→
    (∀j o',L j=true→ops[j]? = some o'→∀e∈o'.after.toList,Region.binds .any e=true→L e.on=true)→kD ops o s∧opA (spF P rd b₀ Φ B Ψ) T o s (bx fun s'=>I (upd L i true) s')) :
  ∀(fuel:Nat) (listed:Array Bool) {s:St}{β:Loc}{a:Act}{w:World},listed.size=ops.size→listed.toList.count false≤fuel→Rel b₀ N s β a w→Φ s β ds w→I (fun i=>listed.getD i false) s→
   (∀j o',listed.getD j false=true→ops[j]? = some o'→∀e∈o'.after.toList,Region.binds .any e=true→listed.getD e.on false=true)→
   (∀L s' β' a' w',I L s'→Rel b₀ N s' β' a' w'→Φ s' β' ds w'→(∃listed',L=(fun i=>listed'.getD i false)∧listed'.size=ops.size∧Region.ready .any ops listed'=[])→Q .normal { a' with defers:=ds } w')→
   (∀ch s' β' a' w',Ψ ch s'→Rel b₀ N s' β' a' w'→Φ s' β' ds w'→Q (.panic ch) { a' with defers:=ds } w')→
   wpAnyIn (fen rd) 0 P .any ops Q fuel listed { a with defers:=ds } w
 |0,listed,s,β,a,w,hsz,hc,hr,hφ,hI,hid,hQ,hX=>by
   have hall:∀i,i<ops.size→listed.getD i true=true:=fun i hi=>by
    have hnf:false∉listed.toList:=fun h=>by
     have:=Q0.2 h;omega
    rw[u1,y1 a7]
    simp only[x6]
    cases hq:listed[i]'a7 with
    |true=>rfl
    |false=>exact absurd (hq▸P1.2 (Q4 a7)) hnf
   have hrd:Region.ready .any ops listed=[]:=by
    unfold Region.ready
    rw[L1]
    intro i hi
    simp[hall i (z8.1 hi)]
   exact⟨hrd,hQ _ s β a w hI hr hφ ⟨listed,rfl,hsz,hrd⟩⟩
 |fuel+1,listed,s,β,a,w,hsz,hc,hr,hφ,hI,hid,hQ,hX=>by
   refine⟨fun hrd=>hQ _ s β a w hI hr hφ ⟨listed,rfl,hsz,hrd⟩,fun i hi=>?_⟩
   unfold Region.ready at hi
   simp only[RH,z8,l9,D4] at hi
   obtain⟨hi1,hi2,hi3⟩:=hi
   have ho:ops[i]? = some ops[i]:=y1 hi1
   rw[ho] at hi3
   simp only[w7,x6,N7,B5,D4] at hi3
   have hli:listed[i]? = some false:=by
    rw[u1,y1 a7] at hi2
    rw[y1 a7]
    simpa using hi2
   have hL:listed.getD i false=false:=by rw[u1,hli];rfl
   have hedge:∀e∈ops[i].after.toList,Region.binds .any e=true→listed.getD e.on false=true:=fun e he hb=>by
    rcases hi3 e (by simpa using he) with h|h
    ·rw[hb] at h;cases h
    ·exact h
   obtain⟨hgd,hst⟩:=hstep _ s i ops[i] hI ho hL hedge hid
   have hgi:Region.wanted ops[i] (yielded ops a.tmps)=true:=by
    unfold kD at hgd
    cases hg:(ops[i]).guard with
    |none=>simp[Region.wanted,hg]
    |some p=>
      obtain⟨j,want⟩:=p
      rw[hg] at hgd
      obtain⟨d,hj,hb⟩:=hgd
      have hy:=hr.yielded hj hb
      simp[Region.wanted,hg,hy]
   have hdi:∀d,(ops[i]).dst=some d→d<N:=fun d hd=>by
    have:=s7.1 hds ops[i] (E9 hi1)
    rw[hd] at this
    simpa using this
   have hni:aA ops[i]=true:=s7.1 hnd ops[i] (E9 hi1)
   unfold wpOpIn
   rw[ho]
   simp only
   rw[if_pos hgi]
   have hset:(fun j=>(listed.setIfInBounds i true).getD j false)=upd (fun j=>listed.getD j false) i true:=by
    funext j
    simp only[upd,u1,L3]
    by_cases hj:i=j
    ·subst hj;simp[hsz,hi1]
    ·have:¬j=i:=fun e=>hj e.symm
     simp[hj,this]
   refine kA hT hΦ hr hφ hni hdi hst (fun s' β' a' w' hI' hr' hφ'=>?_) hX
   refine sU (hT:=hT) hΦ hnd hds I hstep fuel (listed.setIfInBounds i true) (by simpa using hsz) (by have:=count_set hli;omega) hr' hφ' (by rw[hset];exact hI') (fun j o' hj hoj e he hb=>?_) hQ hX
   have e1:=congrFun hset
   simp only[upd] at e1
   rw[e1] at hj ⊢
   by_cases hej:e.on=i
   ·rw[if_pos hej]
   ·rw[if_neg hej]
    by_cases hji:j=i
    ·subst hji
     rw[ho] at hoj
     cases hoj
     exact hedge e he hb
    ·rw[if_neg hji] at hj
     exact hid j o' hj hoj e he hb
theorem sV (hT:aF P T) (hm:P.follows .mixedOrders=true) (hΦ:aE b₀ Φ) {B id:Nat}{q:Box Q} (hnd:ops.toList.all aA=true) (hbk:nz ops=true) (I:(Nat→Bool)→St→Prop) (h0:I (fun _=>false) s)
  (hstep:∀(L:Nat→Bool) (s:St) (i:Nat) (o:Oper),I L s→ops[i]? = some o→L i=false→(∀e∈o.after.toList,Region.binds .any e=true→L e.on=true)→
    (∀j o',L j=true→ops[j]? = some o'→∀e∈o'.after.toList,Region.binds .any e=true→L e.on=true)→kD ops o s∧opA (spF P rd b₀ Φ B Ψ) T o s (bx fun s'=>I (upd L i true) s'))
  (hend:∀L s',I L s'→(∀i,i<ops.size→L i=true)→Q .normal s'):iL (spF P rd b₀ Φ B Ψ) T id ops s q:=by
 refine .inr ⟨fun e s'=>e=.normal∧Q .normal s',fun N β a ds w hc hr hφ=>?_,fun e s' ⟨h1,h2⟩=>h1▸h2⟩
 have hr1:Rel b₀ N s β a { w with drawn:=w.drawn+1 }:=hr.of_heap rfl
 have hφ1:Φ s β ds { w with drawn:=w.drawn+1 }:=hΦ _ _ _ _ _ _ _ hφ (Tr.same rfl rfl rfl)
 refine wpIn_region_any hm (sU (hT:=hT) hΦ hnd hc I hstep ops.size (Array.replicate ops.size false) a8 a8 hr1 hφ1 ?_ (fun j o' hj=>?_) (fun L s' β' a' w' h2 h4 h5 h6=>⟨s',β',a',ds,rfl,.inl ⟨rfl,hend L s' h2 (by obtain⟨listed,rfl,e1,e2⟩:=h6;exact oA hbk e1 e2)⟩,h4,h5⟩) (fun ch s' β' a' w' h1 h2 h3=>⟨s',β',a',ds,rfl,.inr ⟨ch,rfl,h1⟩,h2,h3⟩))
 ·have:(fun i=>(Array.replicate ops.size false).getD i false)=fun _=>false:=by
   funext i
   rw[u1,B1]
   split <;> rfl
  rw[this];exact h0
 ·rw[u1,B1] at hj
  split at hj <;> simp at hj
theorem fO (hT:aF P T) (hm:P.follows .mixedOrders=true) (hΦ:aE b₀ Φ) {B id:Nat}{q:Box Q} (ids:List Nat) (tb:List (List Nat×List Nat×List Nat×Bool)) (nid:Nat) (hnd0:ops.toList.all aA=true) (hok:oK ops tb nid=true) (hnid:ids.length=nid) (hnd:ids.Nodup)
  (h:gX (spF P rd b₀ Φ B Ψ) T ops ids (cW ops.toList tb) s (bx fun s'=>Q .normal s')):iL (spF P rd b₀ Φ B Ψ) T id ops s q:=by
 obtain⟨h1,I,h2,h3,h4⟩:=BB (Q:=Q) ids tb nid hok hnid hnd h
 exact sV hT hm hΦ hnd0 h1 I h2 h3 h4
end
section steps
variable {S:Sp}{T:Nat→TI}{ops:Array Oper}{ids:List Nat}{f:Nat→AV}{g:Nat→Nat}{ob:Nat→Option (List C)}{K:St→Prop}{k:Box K}{op:Op}{ty:TypeId}{ps:String}{af:Array Edge}{gd:Option (Nat×Bool)}{rd hd:List Nat}{r:List Ent}{d:Nat}
theorem aH {v:AV} (hg:GdE ops ⟨⟨some d,op,ty,ps,af,gd⟩,rd,hd,[],false⟩ ⟨f,g,ob⟩) (h1:∀(fa:Nat→AV) (ga:Nat→Nat) (oa:Nat→Option (List C)) (K':St→Prop),K' ⟨upd (maskf rd f fa) d v,maskm ids hd g ga,maskm ids hd ob oa⟩→opA S T ⟨some d,op,ty,ps,af,gd⟩ ⟨maskf rd f fa,maskm ids hd g ga,maskm ids hd ob oa⟩ (bx K'))
  (h2:gX S T ops ids r ⟨upd f d v,g,ob⟩ k):gX S T ops ids (⟨⟨some d,op,ty,ps,af,gd⟩,rd,hd,[],false⟩::r) ⟨f,g,ob⟩ k:=by
 unfold gX
 exact⟨v,[],⟨rfl,fun fa ga oa K' hK=>h1 fa ga oa K' hK,hg⟩,h2⟩
theorem db {v:AV}{a x:Nat}{y:Option (List C)} (hg:GdE ops ⟨⟨some d,op,ty,ps,af,gd⟩,rd,hd,[a],false⟩ ⟨f,g,ob⟩) (h1:∀(fa:Nat→AV) (ga:Nat→Nat) (oa:Nat→Option (List C)) (K':St→Prop),K' ⟨upd (maskf rd f fa) d v,upd (maskm ids hd g ga) (ids.getD a 0) x,upd (maskm ids hd ob oa) (ids.getD a 0) y⟩→opA S T ⟨some d,op,ty,ps,af,gd⟩ ⟨maskf rd f fa,maskm ids hd g ga,maskm ids hd ob oa⟩ (bx K'))
  (h2:gX S T ops ids r ⟨upd f d v,upd g (ids.getD a 0) x,upd ob (ids.getD a 0) y⟩ k):gX S T ops ids (⟨⟨some d,op,ty,ps,af,gd⟩,rd,hd,[a],false⟩::r) ⟨f,g,ob⟩ k:=by
 unfold gX
 exact⟨v,[(x,y)],⟨rfl,fun fa ga oa K' hK=>h1 fa ga oa K' hK,hg⟩,h2⟩
end steps
end
end
end Go.Am
namespace Go.Proofs.YtlglgadejgdpcaaGreatDoor
section
open Go Go.Am Go.Asm
end
end Go.Proofs.YtlglgadejgdpcaaGreatDoor
namespace Go.Am
section
attribute [local congr] Go.Am.ite_cc
section
variable {s:St}{K:St→Prop}{w:World}{a:Act}{o:Oper}{f:FuncId}{β:Loc}{tys:Array TypeId}{ds:List Deferred}{Q:Exit→Act→World→Prop}{u:Value}{ms:Array (String×TypeId)}{args:Array Operand}{R:AV→(Nat→Nat)→Obs→Prop}{caps:List PC}{x:Operand}{k:Box K}
section
variable {P:Program}{T:Nat→TI}{b₀:Bs}{rd:Option Nat}{Φ:St→Loc→List Deferred→World→Prop}{B:Nat}{Ψ:fF}{Ψ0:Pan}
theorem bp (hΦ:aE b₀ Φ) (ho:o.op=.call ⟨.value (.func f),args,tys⟩)
  (hp:dF P f (args.toList.map s.ev) s.gen s.obj R Ψ0) (hx:∀ch g' ob',Ψ0 ch g' ob'→Ψ ch ⟨s.f,g',ob'⟩) (hk:∀r g' ob',R r g' ob'→K (St.put ⟨s.f,g',ob'⟩ o.dst r)):aS (spF P rd b₀ Φ B Ψ) o s k:=by
 refine⟨fun s'=>∃r g' ob',R r g' ob'∧s'=St.put ⟨s.f,g',ob'⟩ o.dst r,fun N β a ds w hr hφ hdst next Q hn hx'=>?_,fun _ ⟨r,g',ob',hr,e⟩=>e▸hk r g' ob' hr⟩
 have hnd:aA o=true:=by simp[aA,ho]
 refine eL hnd ?_
 unfold Oper.wp
 rw[gk ho hp.1 w]
 simp only[Oper.upon]
 have:=hp.2 b₀ N β a s.f w (args.toList.map a.eval) hr (fc hr _)
 rw[show (args.toList.map a.eval).toArray=args.map a.eval from F7 a8] at this
 refine this.mono fun e w' hE=>?_
 rcases hE with⟨v,r,g',ob',β',he,hR,hv,h1,h2,h3⟩|⟨ch,g',ob',β',he,hΨ,h1,h2,h3⟩
 ·subst he
  obtain⟨k1,k2⟩:=eQ hr hdst hv h1 h2 h3
  exact⟨k1.defers,hn _ β' _ w' ⟨r,g',ob',hR,rfl⟩ k1 (hΦ _ _ _ _ _ _ _ hφ k2)⟩
 ·subst he
  have hk:dw b₀ β s.gen s.obj w β' g' ob' w':=h3.keep
  have ht:Tr b₀ β s w β' ⟨s.f,g',ob'⟩ w':=⟨h3.size,h3.old,hk,h3.os⟩
  exact hx' ch ⟨s.f,g',ob'⟩ β' a w' (hx _ _ _ hΨ) ⟨hr.defers,hr.size,fun i=>ag.keep hk _ (hr.f i),h1,h2,A9 hr.base h3.size⟩ (hΦ _ _ _ _ _ _ _ hφ ht)
theorem aG (hΦ:aE b₀ Φ){t:Nat} (ho:o.op=.call ⟨.value (.tmp t),args,tys⟩) (hf:s.f t=.one (.clo f caps))
  (hp:dF P f (args.toList.map s.ev++caps.map fE) s.gen s.obj R Ψ0) (hx:∀ch g' ob',Ψ0 ch g' ob'→Ψ ch ⟨s.f,g',ob'⟩) (hk:∀r g' ob',R r g' ob'→K (St.put ⟨s.f,g',ob'⟩ o.dst r)) (hf1:f<1000000:=by decide):aS (spF P rd b₀ Φ B Ψ) o s k:=by
 refine⟨fun s'=>∃r g' ob',R r g' ob'∧s'=St.put ⟨s.f,g',ob'⟩ o.dst r,fun N β a ds w hr hφ hdst next Q hn hx'=>?_,fun _ ⟨r,g',ob',hr,e⟩=>e▸hk r g' ob' hr⟩
 have hnd:aA o=true:=by simp[aA,ho]
 refine eL hnd ?_
 have hv:=hr.f t
 rw[hf] at hv
 simp only[ag,aw] at hv
 obtain⟨vs,hv1,hv2,hv3⟩:=hv
 rw[nA hf1] at hv1
 have hrun:(execOp a.eval o).run P w=.ok (.enter f (args.map a.eval++vs)) w:=by
  obtain⟨fn,h1,h2,h3⟩:=hp.1
  have h2:¬fn.body=none:=by intro h;rw[h] at h2;simp at h2
  have h3:¬fn.name = "runtime.NumGoroutine":=by simpa using h3
  simp[execOp,ho,resolve,Act.eval,hv1,Deferred.ofValue,invoke,callFunc,h1,h2,h3]
 unfold Oper.wp
 rw[hrun]
 simp only[Oper.upon]
 have hc:ax b₀ β s.gen s.obj w (caps.map fE) vs.toList:=jR (by simpa using hv2) (fun i pc hi=>let ⟨u,h1,h2⟩:=hv3 i pc hi;⟨u,by simpa using h1,h2⟩)
 have:=hp.2 b₀ N β a s.f w (args.toList.map a.eval++vs.toList) hr ((fc hr _).append hc)
 rw[show (args.toList.map a.eval++vs.toList).toArray=args.map a.eval++vs from F7 a8] at this
 refine this.mono fun e w' hE=>?_
 rcases hE with⟨v,r,g',ob',β',he,hR,hv,h1,h2,h3⟩|⟨ch,g',ob',β',he,hΨ,h1,h2,h3⟩
 ·subst he
  obtain⟨k1,k2⟩:=eQ hr hdst hv h1 h2 h3
  exact⟨k1.defers,hn _ β' _ w' ⟨r,g',ob',hR,rfl⟩ k1 (hΦ _ _ _ _ _ _ _ hφ k2)⟩
 ·subst he
  have hk:dw b₀ β s.gen s.obj w β' g' ob' w':=h3.keep
  have ht:Tr b₀ β s w β' ⟨s.f,g',ob'⟩ w':=⟨h3.size,h3.old,hk,h3.os⟩
  exact hx' ch ⟨s.f,g',ob'⟩ β' a w' (hx _ _ _ hΨ) ⟨hr.defers,hr.size,fun i=>ag.keep hk _ (hr.f i),h1,h2,A9 hr.base h3.size⟩ (hΦ _ _ _ _ _ _ _ hφ ht)
@[go_sem] theorem BD {S:Sp}{dst:Option Tmp}{ty:TypeId}{ps:String}{af:Array Edge}{gd:Option (Nat×Bool)}{t u:TypeId}{ok:Bool}:opA S T ⟨dst,.typeAssert x t u ok,ty,ps,af,gd⟩ s k=aS S ⟨dst,.typeAssert x t u ok,ty,ps,af,gd⟩ s k:=l0 rfl rfl
theorem uq (hΦ:aE b₀ Φ){t t0:TypeId} (ho:o.op=.typeAssert x t0 t true) {fs:Array Field} (hu:P.underlying t=some (.struct fs)) {kd:IntKind}{n:Int}
  (hx:s.ev x=.exact (.iface t (.agg #[.int kd n]))) (hk:K (s.put o.dst (.tup [.agg [.d (.int kd n)],bv true]))):aS (spF P rd b₀ Φ B Ψ) o s k:=by
 refine⟨fun s'=>s'=s.put o.dst (.tup [.agg [.d (.int kd n)],bv true]),fun N β a ds w hr hφ hd next Q hn _=>?_,fun _ e=>e▸hk⟩
 refine eL (by simp[aA,ho]) ?_
 have hv:=hr.ev x
 rw[hx] at hv
 simp only[ag] at hv
 have hex:(execOp a.eval o).run P w=.ok (.value (.tuple #[.agg #[.int kd n],.bool true])) w:=by
  simp[execOp,ho,hv,Instr.typeAssert,run_underlying hu]
 have hr':=hr.put hd (x:=.tup [.agg [.d (.int kd n)],bv true]) (v:=.tuple #[.agg #[.int kd n],.bool true]) (by
  simp only[ag,ax]
  refine⟨[.agg #[.int kd n],.bool true],rfl,_,_,rfl,⟨#[.int kd n],rfl,rfl,fun i c hi=>?_⟩,_,_,rfl,?_,rfl⟩
  ·match i,hi with
   |0,hi=>cases hi;exact⟨_,rfl,by simp only[aw];exact .int _ _⟩
  ·simp only[aw];exact .bool _)
 exact cM hex ⟨hr'.defers,hn _ β _ w rfl hr' (hΦ _ _ _ _ _ _ _ hφ (Tr.same (St.put_gen _ _ _) (St.put_obj _ _ _) rfl))⟩
def PG (d:List Deferred) (b₀:Bs) (β0:Loc) (s0:St) (w0:World):St→Loc→List Deferred→World→Prop:=fun s β ds w=>ds=d∧Tr b₀ β0 s0 w0 β s w
theorem oN {d:List Deferred}{β0:Loc}{s0:St}{w0:World}:aE b₀ (PG d b₀ β0 s0 w0):=fun _ _ _ _ _ _ _ h ht=>⟨h.1,h.2.trans ht⟩
theorem sW (hT:aF P T) (hm:P.follows .mixedOrders=true) (hΦ:aE b₀ Φ) {N:Nat}{x y:Code} (hcm:eO x=true) (hc:codeOk N x=true) (hr:Rel b₀ N s β a w) (hφ:Φ s β ds w)
 (h:wpC (spF P rd b₀ Φ B iN) T x (bx fun e s'=>e=.normal∧K s') s) (hy:∀s' β' a' ds' w',K s'→Rel b₀ N s' β' a' w'→Φ s' β' ds' w'→y.wpIn (fen rd) 0 P Q { a' with defers:=ds' } w'):(Code.seq x y).wpIn (fen rd) 0 P Q { a with defers:=ds } w:=by
 refine wpIn_seq (wpIn_mono (bb hT hm hΦ x hcm hc hr hφ h) (fun e a' w' hp=>?_))
 obtain⟨s',β',a0,ds',rfl,h1,h2,h3⟩:=hp
 rcases h1 with⟨rfl,h1⟩|⟨_,_,h⟩
 ·exact hy _ _ _ _ _ h1 h2 h3
 ·exact h.elim
theorem zW (hT:aF P T) (hm:P.follows .mixedOrders=true) (hΦ:aE b₀ Φ) {N:Nat}{x:Code} (Ψ:fF) (K:Exit→St→Prop) (hcm:eO x=true) (hc:codeOk N x=true) (hr:Rel b₀ N s β a w) (hφ:Φ s β ds w)
  (h:wpC (spF P rd b₀ Φ B Ψ) T x (bx K) s) (hq:∀e s' β' a' ds' w',(K e s'∨∃ch,e=.panic ch∧Ψ ch s')→Rel b₀ N s' β' a' w'→Φ s' β' ds' w'→Q e { a' with defers:=ds' } w'):x.wpIn (fen rd) 0 P Q { a with defers:=ds } w:=by
 refine wpIn_mono (bb hT hm hΦ x hcm hc hr hφ h) (fun e a' w' hp=>?_)
 obtain⟨s',β',a0,ds',rfl,h1,h2,h3⟩:=hp
 exact hq _ _ _ _ _ _ h1 h2 h3
theorem zX (hT:aF P T) (hΦ:aE b₀ Φ) {N id t:Nat}{o1 o2:Oper}{y:Code} (hn1:aA o1=true) (g1:o1.guard=none) (g2:o2.guard=none) (hd1:∀d,o1.dst=some d→d<N) (hd2:o2.dst=none)
  (ho2:o2.op=.defer ⟨.value (.tmp t),#[],tys⟩) (hr:Rel b₀ N s β a w) (hφ:Φ s β ds w) (h:opA (spF P none b₀ Φ B iN) T o1 s (bx fun s'=>s'.f t=.one (.clo f caps)∧K s'))
  (hy:∀s' β' a' w' vs,K s'→Rel b₀ N s' β' a' w'→Φ s' β' ds w'→ax b₀ β' s'.gen s'.obj w' (caps.map fE) vs→y.wpIn (fen none) 0 P Q { a' with defers:=⟨.fn (.func f) vs.toArray,#[]⟩::ds } w') (hf1:f<1000000:=by decide):(Code.seq (.region id #[o1,o2] false) y).wpIn (fen none) 0 P Q { a with defers:=ds } w:=by
 refine wpIn_seq (wpIn_region ?_)
 show wpOpsIn (fen none) 0 P #[o1,o2] _ [0,1] _ _
 simp only[wpOpsIn,w8,u7,s9]
 rw[if_pos (by simp[Region.wanted,g1])]
 refine kA hT hΦ hr hφ hn1 hd1 h (fun s' β' a' w' h1 h2 h3=>?_) (fun ch s' β' a' w' h=>h.elim)
 obtain⟨hc,hK⟩:=h1
 rw[if_pos (by simp[Region.wanted,g2])]
 have hv:=h2.f t
 rw[hc] at hv
 simp only[ag,aw] at hv
 obtain⟨vs,hv1,hv2,hv3⟩:=hv
 rw[nA hf1] at hv1
 refine⟨fun _ _=>trivial,?_⟩
 have hrun:((o2.semAt (fen none).round ({ a' with defers:=ds }:Act).eval).run P w')=.ok (.defer ⟨.fn (.func f) vs,#[]⟩) w':=by
  rw[show (fen none).round=none from rfl,Oper.semAt_none]
  simp[execOp,ho2,resolve,Act.eval,hv1,Deferred.ofValue]
 rw[hrun,Oper.uponIn_defer]
 simp only[hd2,Act.put]
 exact hy s' β' a' w' vs.toList hK h2 h3 (jR (by simpa using hv2) (fun i pc hi=>let ⟨u,h1,h2⟩:=hv3 i pc hi;⟨u,by simpa using h1,h2⟩))
theorem qh {tI t:TypeId} (hu:P.underlying tI=some (.interface ms)):(Op.equal tI (.iface t u) .nilIface).run P w=.ok false w:=by
 obtain⟨n,hn⟩:∃n,Op.maxDepth=n+1:=⟨_,rfl⟩
 unfold Op.equal
 rw[hn,Op.equalIn]
 simp[run_underlying hu]
theorem sq{tI t tI2:TypeId}{d:Nat} (ho:o.op=.binOp .eql tI (.tmp d) (.const .nilIface) tI2) (hu:P.underlying tI=some (.interface ms)) (h:a.tmps.getD d undef=.iface t u) :
  (execOp a.eval o).run P w=.ok (.value (.bool false)) w:=by
 have e1:binOp .eql tI (.iface t u) .nilIface=(do pure (.bool (←Op.equal tI (.iface t u) .nilIface))):=rfl
 have e2:eqGuard .eql tI (.tmp d) (.const .nilIface) (.iface t u) .nilIface=pure ():=rfl
 have e3:a.eval (.tmp d)=.iface t u:=h
 have e4:a.eval (.const .nilIface)=.nilIface:=rfl
 unfold execOp
 simp only[ho,e3,e4,e1,e2,Sem.run_bind,Sem.run_pure,Result.andThen_ok,qh hu]
theorem xA (hT:aF P T) (hm:P.follows .mixedOrders=true) {fn fnD:Func}{N id id2 bl d e:Nat}{oR oE:Oper}{tI:TypeId}{x y:Code}
  (hf:P.funcs[f]? = some fnD) (hb:fnD.body=some (.seq (.region id #[oR] false) (.block bl (.seq (.region id2 #[oE] false) (.cond (.tmp e) x y))))) (hnn:(fnD.name == "runtime.NumGoroutine")=false)
  (hoR:oR.op=.call ⟨.builtin .recover,#[],#[]⟩) (hdR:oR.dst=some d) (gR:oR.guard=none) (hoE:oE.op=.binOp .eql tI (.tmp d) (.const .nilIface) tI) (hdE:oE.dst=some e) (gE:oE.guard=none) (hdn:d<fnD.ntmps) (hen:e<fnD.ntmps)
  (hres:fnD.results = #[]) (hcm:eO y=true) (hok:codeOk fnD.ntmps y=true) (huI:P.underlying tI=some (.interface ms)) {t:TypeId}{xs:List AV}{vs:List Value}{R:Ending→World→Prop} (hr:Rel b₀ N s β a w) (hv:ax b₀ β s.gen s.obj w xs vs) (hl:xs.length≤fnD.ntmps)
  {K:(Nat→Nat)→Obs→Prop} (hy:∀β0 s0 w0,wpC (spF P none b₀ (BC b₀ β0 s0 w0) B iN) T y (bx fun ex s'=>ex=.normal∧K s'.gen s'.obj) ⟨upd (upd (bY xs) d (.exact (.iface t u))) e (bv false),s.gen,s.obj⟩)
  (hR:∀g' ob' β' w',K g' ob'→Rel b₀ N ⟨s.f,g',ob'⟩ β' a w'→Tr b₀ β s w β' ⟨s.f,g',ob'⟩ w'→∃v,(results fn a.tmps).run P w'=.ok v w'∧R (.returned v) w') :
  LeavesIn (fen none) 0 P fn a.tmps R [⟨.fn (.func f) vs.toArray,#[]⟩] (.panicking [{ v:=.iface t u,recovered:=false }]) w:=by
 refine leavesIn_cons (f:=f) (args:=vs.toArray) a8 (fun h=>by cases h) ?_ (fun _ _=>trivial) ?_
 ·have h3:¬fnD.name = "runtime.NumGoroutine":=by simpa using hnn
  simp[invoke,callFunc,hf,hb,h3]
 refine callsDIn_of_wpSIn hf hb trivial fun c₀ cs hu=>?_
 apply wpSIn_seq
 apply wpSIn_region
 show wpOpsSIn (fen none) 0 P #[oR] _ [0] _ _ _
 simp only[wpOpsSIn,w8,u7]
 refine⟨fun _ _=>trivial,?_⟩
 rw[if_pos (by simp[Region.wanted,gR])]
 have hrun:∀(a:Act) (w:World),(execOp a.eval oR).run P w=.ok .recover w:=fun a w=>by simp[execOp,hoR,resolve,invoke,builtin]
 rw[hrun]
 simp only[recoverD,hu,hdR,Exit.thenS]
 refine wpSIn_of_wpIn rfl ?_
 have hr0:=iw (N:=fnD.ntmps) (fa:=s.f) hl hr hv
 have hr1:=hr0.put (dst:=some d) (fun d' h=>by cases h;exact hdn) (x:=.exact (.iface t u)) (v:=.iface t u) (by simp only[ag])
 refine wpIn_block (wpIn_seq (wpIn_region ?_))
 show wpOpsIn (fen none) 0 P #[oE] _ [0] _ _
 simp only[wpOpsIn,w8,u7]
 rw[if_pos (by simp[Region.wanted,gE])]
 have hvd:=hr1.f d
 simp only[St.put,upd,if_pos,ag] at hvd
 refine⟨fun _ _=>trivial,?_⟩
 rw[show (fen none).round=none from rfl,Oper.semAt_none]
 rw[sq hoE huI hvd,Oper.uponIn_value]
 simp only[hdE]
 have hr2:Rel b₀ fnD.ntmps ⟨upd (upd (bY xs) d (.exact (.iface t u))) e (bv false),s.gen,s.obj⟩ β _ w:=hr1.put (dst:=some e) (fun d' h=>by cases h;exact hen) (x:=bv false) (v:=.bool false) (by simp only[ag,aw,bv];exact .bool _)
 have hve:=hr2.f e
 simp only[upd,if_pos,bv,ag,aw] at hve
 refine wpIn_cond (t:=false) hve.inv_bool ?_
 rw[if_neg c8]
 have hy2:=bb (rd:=none) (B:=B) (ds:=[]) hT hm aa y hcm hok hr2 ⟨rfl,Tr.refl⟩ (hy β ⟨upd (upd (bY xs) d (.exact (.iface t u))) e (bv false),s.gen,s.obj⟩ w)
 refine wpIn_mono hy2 (fun ex a' w' hp=>?_)
 obtain⟨s',β',a0,ds',rfl,h1,h2,rfl,h4⟩:=hp
 rcases h1 with⟨rfl,h1⟩|⟨_,_,h⟩
 case inr=>exact h.elim
 have hk:dw b₀ β s.gen s.obj w β' s'.gen s'.obj w':=h4.keep
 have ht:Tr b₀ β s w β' ⟨s.f,s'.gen,s'.obj⟩ w':=⟨h4.size,h4.old,hk,h4.os⟩
 have hrA:Rel b₀ N ⟨s.f,s'.gen,s'.obj⟩ β' a w':=⟨hr.defers,hr.size,fun i=>ag.keep hk _ (hr.f i),h2.obj,h2.inj,A9 hr.base h4.size⟩
 obtain⟨v,hv1,hv2⟩:=hR _ _ _ _ h1 hrA ht
 refine⟨rfl,.panicking [{ v:=.iface t u,recovered:=true }],rfl,.tuple #[],by simp[results,hres],?_⟩
 simp only[settle,List.dropWhile_nil,LeavesIn]
 exact⟨v,hv1,hv2⟩
end
end
end
end Go.Am
namespace Go.Proofs.YtlglgadejgdpcaaGreatDoor
section
open Go Go.Am Go.Asm
theorem QS {s:St} (xs:List D):kc s (.agg (xs.map .d)) (.agg ((xs.map fg).map .d)):=by
 refine⟨xs.map fg,a8,fun i c hc=>?_,rfl⟩
 rw[x7] at hc ⊢
 cases hq:xs[i]? with
 |none=>rw[hq] at hc;cases hc
 |some x=>rw[hq] at hc;cases hc;exact⟨_,rfl,.d x⟩
end
section
open Go Go.Am Go.Asm Go.RowKit Go.Sort Go.Lib Go.Proofs
theorem uV (u:Nat) (hu64:u<18446744073709551616) (w:World) (htab:Lib.TabIs Tryz.prog w "internal/strconv.uint64pow10" .u64 Lib.pow10Tab) :
  Calls Tryz.prog 73 #[.int .u64 u,.int .i64 10] w fun e w'=>e=.returned (.string ⟨(Lib.decDigits u).toArray⟩)∧∃k os,w'=grow (w.drewN k) os:=by
 have mixed:Tryz.prog.follows .mixedOrders=true:=c9
 have t3:Tryz.prog.underlying 3=some (.int .i64):=bw.t3;have a3:∀w,(isAgg 3).run Tryz.prog w=.ok false w:=bw.a3;have z3:∀w,(Go.sizeOf 3).run Tryz.prog w=.ok 1 w:=bw.z3
 have v3:∀w,(zeroValue 3).run Tryz.prog w=.ok (.int .i64 0) w:=bw.v3
 have t9:Tryz.prog.underlying 9=some (.string):=bw.t9;have a9:∀w,(isAgg 9).run Tryz.prog w=.ok false w:=bw.a9;have z9:∀w,(Go.sizeOf 9).run Tryz.prog w=.ok 1 w:=bw.z9
 have v9:∀w,(zeroValue 9).run Tryz.prog w=.ok (.string ⟨#[]⟩) w:=bw.v9
 have t4:Tryz.prog.underlying 4=some (.bool):=bw.t4;have a4:∀w,(isAgg 4).run Tryz.prog w=.ok false w:=bw.a4;have z4:∀w,(Go.sizeOf 4).run Tryz.prog w=.ok 1 w:=bw.z4
 have v4:∀w,(zeroValue 4).run Tryz.prog w=.ok (.bool false) w:=bw.v4
 have t171:Tryz.prog.underlying 206=some (.array 24 5):=bw.t171;have a171:∀w,(isAgg 206).run Tryz.prog w=.ok true w:=bw.a171;have z171:∀w,(Go.sizeOf 206).run Tryz.prog w=.ok 24 w:=bw.z171
 have v171:∀w,(zeroValue 206).run Tryz.prog w=.ok (.agg Lib.zeros24) w:=bw.v171
 have t0:Tryz.prog.underlying 0=some (.tuple #[]):=bw.t0;have a0:∀w,(isAgg 0).run Tryz.prog w=.ok false w:=bw.a0;have z0:∀w,(Go.sizeOf 0).run Tryz.prog w=.ok 1 w:=bw.z0
 have v0:∀w,(zeroValue 0).run Tryz.prog w=.ok (.tuple #[]) w:=bw.v0
 have t53:Tryz.prog.underlying 97=some (.int .u64):=bw.t53;have a53:∀w,(isAgg 97).run Tryz.prog w=.ok false w:=bw.a53;have z53:∀w,(Go.sizeOf 97).run Tryz.prog w=.ok 1 w:=bw.z53
 have v53:∀w,(zeroValue 97).run Tryz.prog w=.ok (.int .u64 0) w:=bw.v53
 have t37:Tryz.prog.underlying 56=some (.slice 5):=bw.t37;have a37:∀w,(isAgg 56).run Tryz.prog w=.ok false w:=bw.a37;have z37:∀w,(Go.sizeOf 56).run Tryz.prog w=.ok 1 w:=bw.z37
 have v37:∀w,(zeroValue 56).run Tryz.prog w=.ok (.slice none 0 0) w:=bw.v37
 have t5:Tryz.prog.underlying 5=some (.int .u8):=bw.t5;have a5:∀w,(isAgg 5).run Tryz.prog w=.ok false w:=bw.a5;have z5:∀w,(Go.sizeOf 5).run Tryz.prog w=.ok 1 w:=bw.z5
 have v5:∀w,(zeroValue 5).run Tryz.prog w=.ok (.int .u8 0) w:=bw.v5
 by_cases hs:u<100
 ·have hsm:∀w,Calls Tryz.prog 101 #[.int .i64 u] w fun e w'=>e=.returned (.string ⟨(Lib.decDigits u).toArray⟩)∧w'=w:=fun w=>Any.internal_strconv_small { bw with } u hs w
  go_enter Tryz.func73,Tryz.ntmps73
  go_wp2_with (refine(hsm _).mono ?_;rintro e w' ⟨rfl,rfl⟩)
  go_ret
  exact⟨rfl,0,#[],by simp[World.drewN_zero]⟩
 ·have hu1:1≤u:=a7
  have hnd20:Lib.nDigits u≤20:=by have:=Lib.numDigits_eq u hu1 hu64;split at this <;> omega
  have hb3:Lib.nDigits u≤23:=a7
  have hal:Tryz.prog.arrayLen 206=24:=by simp[Program.arrayLen,t171]
  have hsl1:∀W,(Instr.sliceAt 206 (.pointer (some ⟨w.heap.size,0,none⟩)) none (some (.int .i64 (Lib.nDigits u:Int))) none).run Tryz.prog W=.ok (.slice (some ⟨w.heap.size,0,none⟩) (Lib.nDigits u) 24) W:=fun W=>by
   rw[run_sliceAt_array_h W 206 ⟨w.heap.size,0,none⟩ (by simp[Program.arrayLen,Program.elem,t171]) .i64 (Lib.nDigits u:Int) a7 (by rw[hal];omega)]
   go_simp
  have hH0:Holds (fun(b:UInt8)=>Value.int .u8 (b.toNat:Int)) (w.alloc (.cells Lib.zeros24 206)) w.heap.size 0 (Array.replicate (Lib.nDigits u) 0):=fun j hj=>by
   have hj':j<Lib.nDigits u:=by simpa using hj
   refine⟨?_,World.frozen?_alloc_new _ _ _ _⟩
   rw[World.cell?_alloc_new,Lib.zeros24_at _ a7,J9 _ j hj]
   simp
  have hfmt:Calls Tryz.prog 103 #[.slice (some ⟨w.heap.size,0,none⟩) (Lib.nDigits u) 24,.int .u64 u] (w.alloc (.cells Lib.zeros24 206)) fun e w'=>
    e=.returned (.tuple #[])∧∃(n v':Nat) (dk:Array UInt8),w'=(putRow (fun(b:UInt8)=>Value.int .u8 (b.toNat:Int)) (w.alloc (.cells Lib.zeros24 206)) w.heap.size 0 dk).drewN n∧FmtInv (Lib.nDigits u) u 0 v' dk:=by
   have h:=Any.internal_strconv_formatBase10 { bw with } w.heap.size 0 24 u (Array.replicate (Lib.nDigits u) 0) (w.alloc (.cells Lib.zeros24 206)) hH0 (by rw[M1];exact Lib.lt_pow_nDigits u) hu64 (by rw[M1];omega)
   rw[M1] at h
   exact h
  have hnum:∀w,Lib.TabIs Tryz.prog w "internal/strconv.uint64pow10" .u64 Lib.pow10Tab→Calls Tryz.prog 102 #[.int .u64 u] w fun e w'=>e=.returned (.int .i64 (Lib.nDigits u))∧w'=w:=fun w h=>Any.internal_strconv_numDigits { bw with } u hu1 hu64 w h
  have HH0:=Lib.hid hH0
  clear hH0 hal
  go_enter Tryz.func73,Tryz.ntmps73
  go_wp2_with (first
   | (refine(hnum _ (Lib.tabIs_alloc htab _)).mono ?_;rintro e w' ⟨rfl,rfl⟩))
  refine hfmt.mono ?_
  rintro e w' ⟨rfl,k,v',dk,rfl,hF⟩
  have hcv:(convert 56 9 (.slice (some ⟨w.heap.size,0,none⟩) (Lib.nDigits u) 24)).run Tryz.prog ((putRow (fun(b:UInt8)=>Value.int .u8 (b.toNat:Int)) (w.alloc (.cells Lib.zeros24 206)) w.heap.size 0 dk).drewN k)=.ok (.string ⟨(Lib.decDigits u).toArray⟩) ((putRow (fun(b:UInt8)=>Value.int .u8 (b.toNat:Int)) (w.alloc (.cells Lib.zeros24 206)) w.heap.size 0 dk).drewN k):=by
   have h:=run_convert_bytes_back (P:=Tryz.prog) ((putRow (fun(b:UInt8)=>Value.int .u8 (b.toNat:Int)) (w.alloc (.cells Lib.zeros24 206)) w.heap.size 0 dk).drewN k) 56 9 5 ⟨w.heap.size,0,none⟩ 24 (Lib.decDigits u) t37 t5 t9 (fun j hj=>by
    rw[Lib.row_is_numeral hF j hj,Lib.add_plain,World.cell?_drewN]
    exact cell?_putRow (fun(b:UInt8)=>Value.int .u8 (b.toNat:Int)) _ w.heap.size 0 _ dk HH0.out (by rw[hF.size,M1]) j (by rw[hF.size];rw[Lib.decDigits_length] at hj;exact hj))
   rw[Lib.decDigits_length] at h
   exact h
  go_wp2
  go_ret
  obtain⟨os',_,e⟩:=putRow_grow_new (fun(b:UInt8)=>Value.int .u8 (b.toNat:Int)) w #[.cells Lib.zeros24 206] w.heap.size 0 dk (l4 _)
  rw[←alloc_eq_grow] at e
  exact⟨rfl,k,os',by rw[e];rfl⟩
end
section
attribute [local congr] Go.Am.ite_cc
open Go Go.Am Go.Asm Go.RowKit Go.Sort Go.Lib Go.Proofs
section
def lW (o:bF):Prop:=∀w:World,nf 3 o w→Lib.TabIs Tryz.prog w "internal/strconv.uint64pow10" .u64 Lib.pow10Tab
theorem grown (w:World) (k:Nat) (os:Array Obj):w.heap.size≤(grow (w.drewN k) os).heap.size∧(∀b,b<w.heap.size→(grow (w.drewN k) os).heap[b]? = w.heap[b]?)∧((grow (w.drewN k) os).os=w.os∧(grow (w.drewN k) os).output=w.output):=
 ⟨by rw[size_grow];exact O7 _ _,fun b hb=>heap_grow_old (w.drewN k) os hb,rfl,rfl⟩
variable {o:bF}
theorem Dp (ho:lW o) (n:Nat) (hn:n≤9223372036854775807):bj Tryz.prog 3 o 41 [iv .i64 n] (· = sv (Lib.decDigits n)):=by
 refine gq ⟨_,Tryz.func41,rfl,b9⟩ rfl rfl fun w hG=>?_
 have h:Calls Tryz.prog 41 #[.int .i64 n] w _:=Any.strconv_Itoa bw n a7 a7 w (ho w hG)
 rw[Lib.itoa_nonneg] at h
 exact h.mono fun e w' ⟨h1,k,os,h2⟩=>by
  subst h2
  exact⟨h1,grown w k os⟩
theorem rz (ho:lW o) (n:Nat) (hn:n<18446744073709551616):bj Tryz.prog 3 o 73 [iv .u64 n,iv .i64 10] (· = sv (Lib.decDigits n)):=by
 refine gq ⟨_,Tryz.func73,rfl,b9⟩ rfl rfl fun w hG=>?_
 exact(uV n hn w (ho w hG)).mono fun e w' ⟨h1,k,os,h2⟩=>by
  subst h2
  exact⟨h1,grown w k os⟩
theorem uW (ho:lW o) (n:Nat) (hn:n<18446744073709551616):bj Tryz.prog 3 o 43 [iv .u64 n,iv .i64 10] (· = sv (Lib.decDigits n)):=by
 refine ap 0 3 o ae mixed Tryz.func43 rfl b9 [.tmp 4] rfl c9 c9 (by simp[Tryz.ntmps43]) fun b₀ β0 s0 w0 g=>?_
 simp only[go_sem]
 refine aj ab (fun s β ds w h=>h.1.2) rfl (by simp only[go_sem];exact rz ho n hn) (by simp only[go_sem];rfl) ?_
 rintro _ rfl
 simp only[go_sem]
theorem Kd (ho:lW o) (n:Nat) (hn:n<4294967296):bj Tryz.prog 3 o 24 [iv .u32 n] (· = sv (Lib.decDigits n)):=by
 refine ap 0 3 o ae mixed Tryz.func24 rfl b9 [.tmp 2] rfl c9 c9 (by simp[Tryz.ntmps24]) fun b₀ β0 s0 w0 g=>?_
 have hw:IntKind.u64.wrap (n:Int)=(n:Int):=by rw[IntKind.wrap_u64];omega
 simp only[go_sem,hw]
 refine aj ab (fun s β ds w h=>h.1.2) rfl (by simp only[go_sem];exact uW ho n a7) (by simp only[go_sem];rfl) ?_
 rintro _ rfl
 simp only[go_sem]
end
end
end Go.Proofs.YtlglgadejgdpcaaGreatDoor

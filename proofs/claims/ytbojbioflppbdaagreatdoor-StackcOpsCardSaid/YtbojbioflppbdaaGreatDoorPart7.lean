/- A part of the proof; no conditions. -/
import Derived.Test.YtbojbioflppbdaaGreatDoorPart6
import Derived.Handed
import Derived.Lay
import Derived.LaidMore
import Derived.SevenTiedAt
import Derived.Stop.Joined
import Derived.DefersIn
import Derived.RecoverIn
set_option linter.unusedSimpArgs false
set_option linter.unusedVariables false
set_option maxHeartbeats 64000000
set_option maxRecDepth 100000
namespace Go.Proofs.YtbojbioflppbdaaGreatDoor
section
attribute [local congr] Go.Am.ite_cc
open Go Go.Am Go.Asm
section
def II:Option Str→Src.R (Nat×Str×Nat)
 |some t=>.ok (4,t,0)
 |none=>.err 3
theorem mt (c:UInt8) (r:Str):Src.firstT (c::r)=if digit c=true then(if 4294967295<gq ((c::r).takeWhile digit) then .err 2 else .ok (2,(c::r).takeWhile digit,gq ((c::r).takeWhile digit)))
  else if c=39 then qe (c::r) else if letter c=true then qf ((c::r).takeWhile iz)
  else II (Src.KS.find? fun t=>t.isPrefixOf (c::r)):=by
 unfold Src.firstT qf
 by_cases hd:digit c=true
 ·simp only[hd,A9]
 simp only[hd,A6]
 by_cases h39:c=39
 ·simp only[h39,A9]
  match r with
  |[]=>rfl
  |[_]=>rfl
  |x::y::r=>rfl
 ·simp only[h39,A6]
  rfl
theorem Bf {α:Type}{p:α→Bool}{l:List α}{k:Nat}{x:α} (h:∀y∈l.take k,p y=false) (hx:l[k]? = some x) (hp:p x=true):l.find? p=some x:=by
 have hk:=(l0.1 hx).1
 rw[←G1 k l,List.find?_append,List.find?_eq_none.2 (fun y hy=>by rw[h y hy];simp)]
 have:l.drop k=x::l.drop (k+1):=by
  rw[z7 hk]
  congr 1
  exact F0 ((s7 hk).symm.trans hx)
 rw[this,List.find?_cons,hp]
 rfl
theorem rV {k v:Nat}{t:Str}:nX (.ok (k,t,v))=.tup [.agg [.d (.int .i64 (k:Nat)),.d (.str t),.d (.int .u32 (v:Nat)),.d (.int .i64 ((0:Nat):Int))],iv .i64 0]:=rfl
theorem rW {e:Nat}:nX (.err e)=.tup [.agg [.d (.int .i64 ((0:Nat):Int)),.d (.str []),.d (.int .u32 ((0:Nat):Int)),.d (.int .i64 ((0:Nat):Int))],iv .i64 (e:Nat)]:=rfl
variable {o:cN}
theorem wK (c:UInt8) (s:Str) (h0:s[0]? = some c) (hs:s.length≤1000000) (hd:digit c=true) {x:Src.R (Nat×Str×Nat)} (hx:(if 4294967295<gq (s.takeWhile digit) then .err 2 else .ok (2,s.takeWhile digit,gq (s.takeWhile digit)))=x) :
  bR Tryz.prog 1 o 56 [sv s] (· = nX x):=by
 refine ax 0 1 o ac mixed Tryz.func56 rfl b9 [.cell 2 98,.tmp 3] rfl c8 c8 (by simp[Tryz.ntmps56]) fun b₀ β0 s0 w0 g=>?_
 have hD:=kA c
 rw[hd] at hD
 have hl:=B1 (N9 digit (l:=s)).length_le hs
 have hN:=yv (s.takeWhile digit) a6 List.all_takeWhile
 rw[hx] at hN
 have hfr:=qM kA s a6
 generalize s.takeWhile digit=u at hN hfr hx
 simp only[go_sem,h0]
 refine aF ab rfl (by simp only[go_sem];exact hD) (by simp only[go_sem];rfl) ?_
 rintro _ rfl
 simp only[go_sem]
 refine aF ab rfl (by simp only[go_sem];exact hfr) (by simp only[go_sem];rfl) ?_
 rintro _ rfl
 simp only[go_sem]
 refine aF ab rfl (by simp only[go_sem];exact hN) (by simp only[go_sem];rfl) ?_
 rintro _ rfl
 cases x with
 |ok y=>
   obtain⟨k,t,v⟩:=y
   rw[rV]
   simp only[go_sem]
   exact⟨_,cW (e:=0),rfl⟩
 |err e=>
   rw[rW]
   simp only[go_sem]
   exact⟨_,cW (k:=0) (v:=0),rfl⟩
theorem yw (s:Str) (h0:s[0]? = some 39):bR Tryz.prog 1 o 56 [sv s] (· = nX (qe s)):=by
 refine ax 0 1 o ac mixed Tryz.func56 rfl b9 [.cell 2 98,.tmp 3] rfl c8 c8 (by simp[Tryz.ntmps56]) fun b₀ β0 s0 w0 g=>?_
 have hD:=kA 39
 rw[show digit 39=false from rfl] at hD
 have hi:(((39:UInt8).toNat:Nat):Int)=39:=rfl
 have hB:=DN s
 generalize qe s=x at hB ⊢
 simp only[go_sem,h0]
 refine aF ab rfl (by simp only[go_sem];exact hD) (by simp only[go_sem];rfl) ?_
 rintro _ rfl
 simp only[go_sem,hi]
 refine aF ab rfl (by simp only[go_sem];exact hB) (by simp only[go_sem];rfl) ?_
 rintro _ rfl
 cases x with
 |ok y=>
   obtain⟨k,t,v⟩:=y
   rw[rV]
   simp only[go_sem]
   exact⟨_,cW (e:=0),rfl⟩
 |err e=>
   rw[rW]
   simp only[go_sem]
   exact⟨_,cW (k:=0) (v:=0),rfl⟩
theorem yx (ho:iK o) (c:UInt8) (s:Str) (h0:s[0]? = some c) (hs:s.length≤1000000) (hd:digit c=false) (h39:c≠39) (hl:letter c=true) :
  bR Tryz.prog 1 o 56 [sv s] (· = nX (qf (s.takeWhile iz))):=by
 refine ax 0 1 o ac mixed Tryz.func56 rfl b9 [.cell 2 98,.tmp 3] rfl c8 c8 (by simp[Tryz.ntmps56]) fun b₀ β0 s0 w0 g=>?_
 have hD:=kA c
 rw[hd] at hD
 have hL:=mO c
 rw[hl] at hL
 have hi:¬((c.toNat:Nat):Int)=39:=nb (d:=39) h39
 have hfr:=qM tW s a6
 have hN:=DO ho (s.takeWhile iz)
 generalize s.takeWhile iz=u at hN hfr ⊢
 generalize qf u=x at hN ⊢
 simp only[go_sem,h0]
 refine aF ab rfl (by simp only[go_sem];exact hD) (by simp only[go_sem];rfl) ?_
 rintro _ rfl
 simp only[go_sem,hi]
 refine aF ab rfl (by simp only[go_sem];exact hL) (by simp only[go_sem];rfl) ?_
 rintro _ rfl
 simp only[go_sem]
 refine aF ab rfl (by simp only[go_sem];exact hfr) (by simp only[go_sem];rfl) ?_
 rintro _ rfl
 simp only[go_sem]
 refine am ab (fun s β ds w h=>h.1.2) rfl (by simp only[go_sem];exact hN) (by simp only[go_sem];rfl) ?_
 rintro _ rfl
 cases x with
 |ok y=>
   obtain⟨k,t,v⟩:=y
   rw[rV]
   simp only[go_sem]
   exact⟨_,cW (e:=0),rfl⟩
 |err e=>
   rw[rW]
   simp only[go_sem]
   exact⟨_,cW (k:=0) (v:=0),rfl⟩
theorem yy (ho:iK o) (c:UInt8) (s:Str) (h0:s[0]? = some c) (hd:digit c=false) (h39:c≠39) (hl:letter c=false) {x:Option Str} (hx:Src.KS.find? (fun t=>t.isPrefixOf s)=x) :
  bR Tryz.prog 1 o 56 [sv s] (· = nX (II x)):=by
 refine ax 0 1 o ac mixed Tryz.func56 rfl b9 [.cell 2 98,.tmp 3] rfl c8 c8 (by simp[Tryz.ntmps56]) fun b₀ β0 s0 w0 g=>?_
 have hD:=kA c
 rw[hd] at hD
 have hL:=mO c
 rw[hl] at hL
 have hi:¬((c.toNat:Nat):Int)=39:=nb (d:=39) h39
 have hsl:Src.KS.length=24:=rfl
 simp only[go_sem,h0]
 refine aF ab rfl (by simp only[go_sem];exact hD) (by simp only[go_sem];rfl) ?_
 rintro _ rfl
 simp only[go_sem,hi]
 refine aF ab rfl (by simp only[go_sem];exact hL) (by simp only[go_sem];rfl) ?_
 rintro _ rfl
 simp only[go_sem]
 refine ap (fun n st=>∃k:Nat,n+k=24∧st.f 0=sv s∧st.f 31=iv .i64 k∧st.f 2=.one (.ptr 2 (nxC 99 (g 2)) 0)∧st.gen 2=nxC 99 (g 2)∧st.obj 2=some [.d (.int .i64 0),.d (.str []),.d (.int .u32 0),.d (.int .i64 0)]∧∀t∈Src.KS.take k,t.isPrefixOf s=false) 24 ?_ ?_
 ·refine⟨0,rfl,?_⟩
  simp only[go_sem]
  simp
 rintro n f g' ob ⟨k,hk,q0,q31,q2,g2,o2,hno⟩
 simp only at q0 q31 q2 g2 o2
 have hw:=ai (k:=k) a6
 by_cases hlt:k<24
 ·have hlti:(k:Int)<24:=a6
  obtain⟨t,ht⟩:=getq (l:=Src.KS) (k:=k) a6
  have hP:=qd s t
  have hrow:∀w:World,qr 1 o w→∀(j:Nat) (x:D),([D.str t]:List D)[j]? = some x→w.cell? ⟨0,k*(Tt 9).size+j,none⟩=some (dV x):=fun w hw j x hx=>by
   match j,hx with
   |0,hx=>cases hx;rw[show k*(Tt 9).size+0=k from by show k*1+0=k;omega];exact(ho w hw).2 k t ht
  simp only[go_sem,q0,q31,hlti]
  refine oW ab (fun s β ds w h=>h.1.2) ac (n:=24) (e:=9) rfl rfl a8 (kd:=.i64) (i:=k) (by simp only[go_sem,q31]) hlt (cs:=[.str t]) (fun j x hx=>by match j,hx with|0,hx=>cases hx;rfl) hrow ?_
  simp only[go_sem,q0]
  refine aF ab rfl (by simp only[go_sem];exact hP) (by simp only[go_sem];rfl) ?_
  rintro _ rfl
  cases hp:t.isPrefixOf s
  ·simp only[go_sem,q31,hw]
   refine ah (n-1) a6 ⟨k+1,a6,?_⟩
   simp only[go_sem,q0,q2,g2,o2]
   rw[A4,ht]
   intro x hx
   rcases C8.1 hx with hx|hx
   ·exact hno x hx
   ·simp at hx;rw[hx];exact hp
  ·rw[Bf (p:=fun t=>t.isPrefixOf s) hno ht hp] at hx
   subst hx
   simp only[go_sem,q31,hlti]
   refine oW ab (fun s β ds w h=>h.1.2) ac (n:=24) (e:=9) rfl rfl a8 (kd:=.i64) (i:=k) (by simp only[go_sem,q31]) hlt (cs:=[.str t]) (fun j x hx=>by match j,hx with|0,hx=>cases hx;rfl) hrow ?_
   simp only[go_sem,q2,g2,o2]
   exact⟨_,cW (k:=4) (v:=0) (e:=0),rfl⟩
 ·obtain rfl:k=24:=a6
  rw[l6 (by rw[hsl];decide)] at hno
  rw[List.find?_eq_none.2 (fun y hy=>by rw[hno y hy];simp)] at hx
  subst hx
  simp only[go_sem,q0,q31,q2,g2,o2,show ¬((24:Nat):Int)<24 by decide]
  exact⟨_,cW (k:=0) (v:=0) (e:=3),rfl⟩
theorem Hh (ho:iK o) (c:UInt8) (r:Str) (hs:(c::r).length≤1000000):bR Tryz.prog 1 o 56 [sv (c::r)] (· = nX (Src.firstT (c::r))):=by
 rw[mt]
 cases hd:digit c with
 |true=>rw[if_pos rfl];exact wK c (c::r) rfl hs hd rfl
 |false=>
   rw[if_neg a7]
   by_cases h39:c=39
   ·rw[if_pos h39];exact yw (c::r) (by rw[h39];rfl)
   ·rw[if_neg h39]
    cases hl:letter c with
    |true=>rw[if_pos rfl];exact yx ho c (c::r) rfl hs hd h39 hl
    |false=>rw[if_neg a7];exact yy ho c (c::r) rfl hd h39 hl rfl
end
def gX (l:List Src.Tok):D:=.sl (l.map lh)
def OK (r:List Src.Tok×Nat×Nat):AV:=.tup [.one (.d (gX r.1)),iv .i64 (r.2.1:Nat),iv .i64 (r.2.2:Nat)]
def rX (l:List Src.Tok):List C:=l.flatMap fun t=>(lh t).map .d
theorem tX:∀l:List Src.Tok,(rX l).length=l.length*4
 |[]=>rfl
 |t::l=>by have ih:=tX l;unfold rX at ih ⊢;rw[D1,j4,ih];simp only[lh,j5,j6,j7];omega
theorem yz (l:List Src.Tok) (t:Src.Tok):rX (l++[t])=rX l++(lh t).map .d:=by unfold rX;rw[N0];simp
def sV (l:List Src.Tok):Src.R (List Src.Tok)×Nat→Src.R (List Src.Tok)×Nat
 |(.ok l',p)=>(.ok (l++l'),p)
 |(.err e,p)=>(.err e,p)
theorem DP (x:Src.R (List Src.Tok)×Nat):sV [] x=x:=by obtain⟨a,b⟩:=x;cases a <;> rfl
theorem Bg (l:List Src.Tok) (t:Src.Tok) (x:Src.R (List Src.Tok)×Nat):sV (l++[t]) x=sV l (sV [t] x):=by obtain⟨a,b⟩:=x;cases a <;> simp[sV]
theorem mu {p:UInt8→Bool}:∀s:Str,s.drop (s.takeWhile p).length=s.dropWhile p
 |[]=>rfl
 |c::s=>by
   by_cases h:p c=true
   ·rw[I8,if_pos h,List.dropWhile_cons,if_pos h,j6,List.drop_succ_cons,mu s]
   ·rw[I8,if_neg h,List.dropWhile_cons,if_neg h];rfl
theorem yA {s t:Str}{k v:Nat} (h:Src.firstT s=.ok (k,t,v)):0<t.length∧t.length≤s.length∧v<4294967296∧k≤4:=by
 have hall:(Src.KS.all fun t=>decide (0<t.length))=true:=a8
 cases s with
 |nil=>unfold Src.firstT at h;cases h
 |cons c r=>
   rw[mt] at h
   have hsub:∀p:UInt8→Bool,((c::r).takeWhile p).length≤(c::r).length:=fun p=>(N9 p).length_le
   split at h
   ·rename_i hd
    split at h
    ·cases h
    ·cases h
     refine⟨?_,hsub _,a6,a8⟩
     rw[I8,if_pos hd];simp
   ·split at h
    ·unfold qe at h
     split at h
     ·rename_i x y r' hx
      split at h
      ·cases h
       rename_i hh
       rw[hx]
       refine⟨a7,a7,?_,a8⟩
       omega
      ·cases h
     ·cases h
    ·split at h
     ·rename_i hl
      unfold qf at h
      split at h
      ·cases h
      ·have h0:0<((c::r).takeWhile iz).length:=by
        rw[I8,if_pos (by unfold iz;rw[hl];rfl)];simp
       split at h <;> cases h <;> exact⟨h0,hsub _,a8,a8⟩
     ·cases hf:Src.KS.find? fun t=>t.isPrefixOf (c::r) with
      |some t'=>
        rw[hf] at h
        cases h
        have hm:=Q0 hf
        have hp:=List.find?_some hf
        refine⟨G9 (r0.1 hall _ hm),?_,a8,a8⟩
        exact(M3.1 hp).length_le
      |none=>rw[hf] at h;cases h
theorem yB {s:Str}{e:Nat} (hs:s≠[]) (h:Src.firstT s=.err e):e=2∨e=3:=by
 cases s with
 |nil=>exact absurd rfl hs
 |cons c r=>
   rw[mt] at h
   split at h
   ·split at h
    ·cases h;exact .inl rfl
    ·cases h
   ·split at h
    ·unfold qe at h
     split at h
     ·split at h
      ·cases h
      ·cases h;exact .inr rfl
     ·cases h;exact .inr rfl
    ·split at h
     ·unfold qf at h
      split at h
      ·cases h;exact .inl rfl
      ·split at h <;> cases h
     ·cases hf:Src.KS.find? fun t=>t.isPrefixOf (c::r) with
      |some t'=>rw[hf] at h;cases h
      |none=>rw[hf] at h;cases h;exact .inr rfl
theorem OL {o:cN} (ho:iK o) (s:Str):bR Tryz.prog 1 o 33 [sv s] (· = OK (Src.pC s)):=by
 refine ax 0 1 o ac mixed Tryz.func33 rfl b9 [.tmp 2,.tmp 3,.tmp 4] rfl c8 c8 (by simp[Tryz.ntmps33]) fun b₀ β0 s0 w0 g=>?_
 unfold Src.pC
 by_cases hbig:20000<s.length
 ·have hbi:(20000:Int)<(s.length:Int):=a6
  rw[if_pos hbig]
  simp only[go_sem,hbi]
  exact⟨_,⟨_,⟨_,_,rfl,jf .nsl,_,_,rfl,jf _,_,_,rfl,jf _,rfl⟩,rfl⟩,rfl⟩
 have hbi:¬(20000:Int)<(s.length:Int):=a6
 rw[if_neg hbig]
 simp only[go_sem,hbi]
 refine ap (fun n st=>∃(k:Nat) (m:Nat) (l:List Src.Tok),n+k=s.length∧(s.drop k).length<m∧Src.qi (s.length+1) 0 s=sV l (Src.qi m k (s.drop k))∧l.length≤k∧st.f 0=sv s∧st.f 6=iv .i64 k∧
  ((l=[]∧st.f 5=.one (.d .nsl))∨(l≠[]∧st.f 5=.one (.osl 61 (st.gen 61) 4 0 l.length)∧st.obj 61=some (rX l)))) s.length ?_ ?_
 ·refine⟨0,s.length+1,[],a6,a7,by rw[DP];rfl,a7,?_⟩
  simp only[go_sem]
  exact .inl trivial
 rintro n f g' ob ⟨k,m,l,hk,hm,hL,hlk,q0,q6,q5⟩
 simp only at q0 q6 q5
 have hk0:(0:Int)≤(k:Int):=a6
 by_cases hlt:k<s.length
 case neg=>
  have hlti:¬(k:Int)<(s.length:Int):=a6
  rw[D9 a6] at hL
  obtain⟨m',rfl⟩:∃m',m=m'+1:=⟨m-1,a6⟩
  rw[hL]
  have hend:∀k,sV l (Src.qi (m'+1) k [])=(.ok l,0):=fun k=>by unfold Src.qi sV;simp
  rw[hend]
  rcases q5 with⟨rfl,q5⟩|⟨hne,q5,o5⟩
  ·simp only[go_sem,q0,q6,q5,hlti]
   exact⟨_,⟨_,⟨_,_,rfl,jf .nsl,_,_,rfl,jf _,_,_,rfl,jf _,rfl⟩,rfl⟩,rfl⟩
  ·simp only[go_sem,q0,q6,q5,hlti]
   exact⟨_,⟨_,⟨_,_,rfl,Hf (de rfl l lh (by simp[upd,o5,rX]) rfl (fun t _ x hx=>by simp only[lh,x9,A1,E4] at hx;rcases hx with rfl|rfl|rfl|rfl <;> rfl) (fun _ _=>rfl) rfl),_,_,rfl,jf _,_,_,rfl,jf _,rfl⟩,rfl⟩,rfl⟩
 have hlti:(k:Int)<(s.length:Int):=a6
 obtain⟨c,hc⟩:=getq hlt
 have hdrop:s.drop k=c::s.drop (k+1):=by
  rw[z7 hlt]
  congr 1
  exact F0 ((s7 hlt).symm.trans hc)
 obtain⟨m',rfl⟩:∃m',m=m'+1:=⟨m-1,a6⟩
 have hml:(s.drop (k+1)).length<m':=by rw[hdrop] at hm;simp only[j6] at hm;omega
 have hw:=ai (k:=k) a6
 have hgo:∀k r,Src.qi (m'+1) k (c::r)=if c=32∨c=9∨c=10 then Src.qi m' (k+1) r
   else if c=47∧r.head? = some 47 then Src.qi m' (k+((c::r).takeWhile (· != 10)).length) ((c::r).dropWhile (· != 10))
   else match Src.firstT (c::r) with
    |.err e=>(.err e,k)
    |.ok (kd,t,v)=>sV [⟨kd,t,v,k⟩] (Src.qi m' (k+t.length) ((c::r).drop t.length)):=by
  intro k r
  conv=>lhs;unfold Src.qi
  split
  ·rfl
  ·split
   ·rfl
   ·split
    ·rename_i h;rw[h]
    ·rename_i kd t v h
     rw[h]
     simp only
     rcases Src.qi m' (k+t.length) ((c::r).drop t.length) with⟨a,b⟩
     cases a <;> rfl
 rw[hdrop,hgo] at hL
 by_cases hbl:c=32∨c=9∨c=10
 ·rw[if_pos hbl] at hL
  have hstep:(((c.toNat:Nat):Int)=32)∨(¬((c.toNat:Nat):Int)=32∧((c.toNat:Nat):Int)=9)∨(¬((c.toNat:Nat):Int)=32∧¬((c.toNat:Nat):Int)=9∧((c.toNat:Nat):Int)=10):=by
   rcases hbl with rfl|rfl|rfl
   ·exact .inl rfl
   ·exact .inr (.inl ⟨a8,rfl⟩)
   ·exact .inr (.inr ⟨a8,a8,rfl⟩)
  rcases hstep with h1|⟨h1,h2⟩|⟨h1,h2,h3⟩
  case' inl=>simp only[go_sem,q0,q6,hlti,hc,hk0,h1,hw]
  case' inr.inl=>simp only[go_sem,q0,q6,hlti,hc,hk0,h1,h2,hw]
  case' inr.inr=>simp only[go_sem,q0,q6,hlti,hc,hk0,h1,h2,h3,hw]
  all_goals
   refine ah (n-1) a6 ⟨k+1,m',l,a6,hml,hL,a6,?_⟩
   simp only[go_sem,q0]
   exact q5
 rw[if_neg hbl] at hL
 have b1:¬((c.toNat:Nat):Int)=32:=nb (d:=32) fun h=>hbl (.inl h)
 have b2:¬((c.toNat:Nat):Int)=9:=nb (d:=9) fun h=>hbl (.inr (.inl h))
 have b3:¬((c.toNat:Nat):Int)=10:=nb (d:=10) fun h=>hbl (.inr (.inr h))
 have hsl:List.drop k (List.take s.length s)=s.drop k:=by rw[G4]
 have hdl:(s.drop k).length≤1000000:=by rw[D8];omega
 simp only[go_sem,q0,q6,hlti,hc,hk0,b1,b2,b3,hsl]
 refine⟨a6,a6,?_⟩
 refine aF ab rfl (by simp only[go_sem];exact qd (s.drop k) [47,47]) (by simp only[go_sem];rfl) ?_
 rintro _ rfl
 cases hp:([47,47]:Str).isPrefixOf (s.drop k)
 case true=>
  obtain⟨r2,hr2⟩:=M3.1 hp
  have hcm:c=47∧(s.drop (k+1)).head? = some 47:=by
   rw[hdrop] at hr2
   simp only[A0,y2,P1] at hr2
   exact⟨hr2.1.symm,by rw[←hr2.2];rfl⟩
  rw[if_pos hcm,←hdrop,←mu,List.drop_drop] at hL
  have htl:((s.drop k).takeWhile (· != 10)).length≤(s.drop k).length:=(N9 _).length_le
  have ht1:1≤((s.drop k).takeWhile (· != 10)).length:=by
   rw[hdrop,I8,if_pos (by rw[hcm.1];rfl)];simp
  have hdl2:(s.drop k).length=s.length-k:=D8
  generalize hT:((s.drop k).takeWhile (· != 10)).length=T at hL htl ht1
  have hw2:IntKind.i64.wrap ((k:Int)+(T:Int))=((k+T:Nat):Int):=by rw[wrap_i64] <;> omega
  simp only[go_sem,q0,q6,hk0,hsl]
  refine⟨a6,a6,?_⟩
  refine aF ab rfl (by simp only[go_sem];exact qM He (s.drop k) a6) (by simp only[go_sem];rfl) ?_
  rintro _ rfl
  simp only[go_sem,hT,hw2,q6]
  refine ah (n-T) a6 ⟨k+T,m',l,a6,by rw[D8];rw[D8] at hml;omega,hL,a6,?_⟩
  simp only[go_sem,q0]
  exact q5
 have hncm:¬(c=47∧(s.drop (k+1)).head? = some 47):=by
  rintro⟨h1,h2⟩
  rw[hdrop,h1] at hp
  cases hr:s.drop (k+1) with
  |nil=>rw[hr] at h2;cases h2
  |cons x y=>
    rw[hr] at h2 hp
    simp only[List.head?_cons,u7] at h2
    rw[h2] at hp
    simp[List.isPrefixOf] at hp
 rw[if_neg hncm] at hL
 have hF:=Hh ho c (s.drop (k+1)) (by rw[←hdrop];exact hdl)
 rw[←hdrop] at hF hL
 simp only[go_sem,q0,q6,hk0,hsl]
 refine⟨a6,a6,?_⟩
 refine am ab (fun s β ds w h=>h.1.2) rfl (by simp only[go_sem];exact hF) (by simp only[go_sem];rfl) ?_
 rintro _ rfl
 cases hf:Src.firstT (s.drop k) with
 |err e=>
   have he:e=2∨e=3:=yB (by rw[hdrop];simp) hf
   have hei:¬(e:Int)=0:=a6
   rw[hf] at hL
   simp only[sV] at hL
   rw[hL]
   unfold nX mV lh
   simp only[go_sem,l5,w7,hei,q6]
   exact⟨_,⟨_,⟨_,_,rfl,jf .nsl,_,_,rfl,jf _,_,_,rfl,jf _,rfl⟩,rfl⟩,rfl⟩
 |ok x=>
   obtain⟨kd,t,v⟩:=x
   obtain⟨t1,t2,t3,t4⟩:=yA hf
   rw[hf] at hL
   simp only at hL
   rw[List.drop_drop,←Bg] at hL
   have hdl2:(s.drop k).length=s.length-k:=D8
   have hw2:IntKind.i64.wrap ((k:Int)+(t.length:Int))=((k+t.length:Nat):Int):=by rw[wrap_i64] <;> omega
   unfold nX mV lh
   rcases q5 with⟨rfl,q5⟩|⟨hne,q5,o5⟩
   ·simp only[go_sem,l5,w7,q6,q5,aH,hw2]
    refine⟨⟨a8,a8⟩,?_⟩
    refine ah (n-t.length) a6 ⟨k+t.length,m',[⟨kd,t,v,k⟩],a6,by rw[D8];rw[D8] at hml;omega,hL,by simp;omega,?_⟩
    simp only[go_sem,q0]
    first|exact .inr rfl|exact .inr ⟨by simp,rfl⟩|exact .inr ⟨by simp,rfl,rfl⟩
   ·have htc:=tX l
    simp only[go_sem,l5,w7,q6,q5,o5,aH,hw2]
    refine⟨a6,⟨a8,a6⟩,?_⟩
    refine ah (n-t.length) a6 ⟨k+t.length,m',l++[⟨kd,t,v,k⟩],a6,by rw[D8];rw[D8] at hml;omega,hL,by simp;omega,?_⟩
    simp only[go_sem,q0]
    refine .inr ⟨a7,a7,?_⟩
    rw[yz,l6 a6]
    rfl
end
end Go.Proofs.YtbojbioflppbdaaGreatDoor
namespace Go.Am
section
open Go.ChangeShapes Go.WideShapes Go.ChangeAt Go.RowKit
section
variable {H:Type}{enc:TypeId×Value→H}
theorem iD {C:Checked}{os:Os}{f:FuncId}{fn:Func}{s:ChangeSpec}{conds:List PathCond}{laid:List (String×DataW Unit)} (own:ownKnob C.prog.godebug=none) (started:os.Started) (noInit:C.prog.inits.idxOf? f=none) (hfn:C.prog.funcs[f]? = some fn)
  (witness:∃(w:World) (tape:Tape) (i:Input),w.os=os∧(w.forCall tape i).Shaped C.prog∧i.vars=[]∧Input.okWide C.prog (w.forCall tape i) .any w.heap.size f i∧
    ((s.pre enc C.prog fn conds false (w.forCall tape i).memory i.args∧laidMetH C.prog laid (w.forCall tape i).memory)∧sizedMet enc C.prog fn (OpenSpec.ofChange s) false (w.forCall tape i).memory i.args)∧Assume.holds {} C.prog (lone (Frame.enter C.prog f i.args .normal) [] (w.forCall tape i)))
  (hvars:s.vars=[]) (hl:laidOutB C.prog=true) (hts:fn.params.toList.all (fun t=>C.prog.readableRec t&&decide (t<C.prog.types.size))=true) {tb:TypeId} (hres:fn.resultTypes = #[tb]) (htb:C.prog.underlying tb=some .bool)
  (hspec:∀ds:List (DataW H),ds.length=fn.params.toList.length→s.fn H ds = { results:=[.lit (.bool true)],args:=ds })
  (hcall:∀(W:World) (base:Nat) (args:Array Value) (ds:List (DataW H)) (ps:List MemPlace),laidMetH C.prog laid W→(∀(j:Nat) t v,fn.params[j]? = some t→args[j]? = some v→Value.okWide C.prog W .any base t v)→DataW.TrodAll enc C.prog W 0 (fun _=>true) true fn.params.toList args.toList ds ps→(DataW.weightsEach C.prog fn.params.toList ds).all (·≤reachBytes)=true→vv C.prog f args W) :
  ReturnsInHanded {} C os f .any (fun w args=>(s.pre enc C.prog fn conds false w args∧laidMetH C.prog laid w)∧sizedMet enc C.prog fn (OpenSpec.ofChange s) false w args) (s.post enc C.prog fn false true false false):=by
 refine returnsInHanded_of_change_and (X:=fun w _=>laidMetH C.prog laid w) (fun _ _ _ hh h=>h.of_heap hh) own started noInit hfn witness ?_
 intro W base args ds gs before hval hW hcnd hsz hX _
 have hW':=hW
 obtain⟨p,q,hA,hV,rfl,hfz,hnd⟩:=hW
 rw[hvars] at hV
 obtain⟨rfl,rfl⟩:=trodVars_none hV
 have hvt:s.plain.varTypes C.prog=[]:=by simp[ChangeSpec.plain,DataSpec.varTypes,hvars]
 rw[hvt,l9,l9] at hsz
 refine(hcall W base args ds p hX hval hA hsz).mono fun e W' ⟨he,hs,hb,ho⟩=>⟨_,he,?_⟩
 have hlt:∀x∈p,x.block<W.heap.size:=fun x hx=>hW'.lt x (by simp[hx])
 have hsp:s.fn H (ds++[]) = { results:=[.lit (.bool true)],args:=ds }:=by rw[l9];exact hspec ds (pT _ _ _ _ hA)
 refine⟨ds,[],p++[],[],p,[],hW',?_,?_,?_,FC hb ho _,fun h=>by cases h⟩
 ·rw[hsp,hres]
  exact trodAll_mk1 ⟨1,by simp[DataW.trod,htb,Value.cells]⟩
 ·rw[hsp]
  exact mY hl hb _ _ _ _ hts hlt hA
 ·rw[hsp,hvars]
  exact rfl
theorem mZ {P:Program}{w:World}{gb:Nat}{o:cN} (hG:qr gb o w) {f:FuncId}{args:List AV} (h:bR P gb o f args (· = bv true)) {vs:List Value} (hv:RVs (fun b=>b<w.heap.size) w args vs):vv P f vs.toArray w:=by
 refine(h.2 _ w vs hG (fun _ h=>h) hv).mono fun e w' ⟨v,r,h1,h2,h3,h4,h5,h6⟩=>⟨?_,h3,h4,h5⟩
 subst h2
 simp only[RV] at h6
 obtain⟨x,hx,hr⟩:=h6
 cases hx
 cases hr
 exact h1
end
end
section
section
def kP (ops:Array Oper) (o:Oper) (s:St):Prop:=match o.guard with|none=>True|some (j,w)=>∃d,((ops[j]?).bind (·.dst))=some d∧s.f d=bv w
def GdE (ops:Array Oper) (e:Ent) (s:St):Prop:=match e.o.guard with|none=>True|some (j,w)=>∃d,((ops[j]?).bind (·.dst))=some d∧d∈e.rd∧s.f d=bv w
variable {ops:Array Oper}{s:St}{Q:Exit→St→Prop}
theorem GdE.ok{e:Ent}{s s':St} (h:GdE ops e s) (hr:∀r∈e.rd,s'.f r=s.f r):kP ops e.o s':=by
 unfold GdE at h
 unfold kP
 cases hg:e.o.guard with
 |none=>trivial
 |some p=>
   obtain⟨j,w⟩:=p
   rw[hg] at h
   obtain⟨d,h1,h2,h3⟩:=h
   exact⟨d,h1,by rw[hr d h2];exact h3⟩
def Ik (S:Sp) (T:Nat→TI) (ops:Array Oper) (ids:List Nat) (e:Ent) (s:St) (v:AV) (m:List (Nat×Option (List C))):Prop:=BV S T ids e s v m∧GdE ops e s
def Il (S:Sp) (T:Nat→TI) (ops:Array Oper) (e:Ent) (s:St) (K:St→Prop):Prop:=yT S T e.o s K∧GdE ops e s
def ip (S:Sp) (T:Nat→TI) (ops:Array Oper) (ids:List Nat):List Ent→St→{K:St→Prop}→Box K→Prop
 |[],s,K,_=>K s
 |e::r,s,K,k=>match e.full with
   |true=>Il S T ops e s K
   |false=>∃v m,(m.length=e.ef.length∧Ik S T ops ids e s v m)∧ip S T ops ids r (eO ids e v m s) k
theorem rm {S:Sp}{T:Nat→TI}{ops:Array Oper}{ids:List Nat}{K:St→Prop}{k:Box K}:∀(l:List Ent) (s:St),ip S T ops ids l s k→(∀i e,l[i]? = some e→e.full=true→i+1=l.length)→
  ∃t:Nat→St,t 0=s∧(∀i e,l[i]? = some e→e.full=false→∃v m,(m.length=e.ef.length∧Ik S T ops ids e (t i) v m)∧t (i+1)=eO ids e v m (t i))∧(∀i e,l[i]? = some e→e.full=true→Il S T ops e (t i) K)∧
   ((∀(i:Nat) (e:Ent),l[i]? = some e→e.full=false)→K (t l.length))
 |[],s,h,_=>⟨fun _=>s,rfl,fun i e hi=>(by simp at hi),fun i e hi=>(by simp at hi),fun _=>h⟩
 |e::r,s,h,hl=>by
   unfold ip at h
   cases hf:e.full with
   |true=>
     rw[hf] at h
     have h0:=hl 0 e rfl hf
     have:r=[]:=y1 (by simpa using h0)
     subst this
     refine⟨fun _=>s,rfl,fun i e' hi hf'=>?_,fun i e' hi _=>?_,fun ha=>?_⟩
     ·cases i with
      |zero=>simp at hi;subst hi;rw[hf] at hf';cases hf'
      |succ i=>simp at hi
     ·cases i with
      |zero=>simp at hi;subst hi;exact h
      |succ i=>simp at hi
     ·have:=ha 0 e rfl;rw[hf] at this;cases this
   |false=>
     rw[hf] at h
     obtain⟨v,m,hs,hr⟩:=h
     obtain⟨t,t0,t1,t2,t3⟩:=rm r _ hr (fun i e' hi hf'=>by have:=hl (i+1) e' (by simpa using hi) hf';simpa using this)
     refine⟨fun i=>match i with|0=>s|i+1=>t i,rfl,fun i e' hi hf'=>?_,fun i e' hi hf'=>?_,fun ha=>?_⟩
     ·cases i with
      |zero=>simp at hi;subst hi;exact⟨v,m,hs,t0⟩
      |succ i=>exact t1 i e' (by simpa using hi) hf'
     ·cases i with
      |zero=>simp at hi;subst hi;rw[hf] at hf';cases hf'
      |succ i=>exact t2 i e' (by simpa using hi) hf'
     ·exact t3 (fun i e' hi=>ha (i+1) e' (by rw[l8];exact hi))
def uB (ops:Array Oper) (tb:List (List Nat×List Nat×List Nat×Bool)) (nid:Nat) (tab:List (List Nat)):Bool:=
 nJ ops&&Jp ops tab&&(tb.length==ops.size) &&
 (List.range ops.size).all fun i=>(((ops[i]?).bind fun o=>(tb[i]?).map fun t=>
   (t.1.all fun r=>(List.range ops.size).all fun j=>eT tab i j||((tb[j]?).map fun t'=>t'.2.2.2).getD false||((ops[j]?).map fun o'=>decide (o'.dst≠some r)).getD false) &&
   ((List.range ops.size).all fun j=>i==j||((ops[j]?).map fun o'=>o'.dst.isNone||decide (o'.dst≠o.dst)).getD false) &&
   ((List.range nid).all fun a=>t.2.1.contains a||(List.range ops.size).all fun j=>eT tab i j||eT tab j i||i==j||((tb[j]?).map fun t'=>!t'.2.2.1.contains a).getD false) &&
   (t.2.1.all fun a=>decide (a<nid))&&(t.2.2.1.all fun a=>decide (a<nid))&&(t.2.2.1.all fun a=>(List.range ops.size).all fun j=>eT tab i j||eT tab j i||i==j||((tb[j]?).map fun t'=>!t'.2.2.1.contains a).getD false) &&
   (!t.2.2.2||(i+1==ops.size&&(List.range i).all fun j=>eT tab i j))).getD false)
def oX (ops:Array Oper) (tb:List (List Nat×List Nat×List Nat×Bool)) (nid:Nat):Bool:=uB ops tb nid (vz ops)
section
variable {P:Program}{T:Nat→TI}{b₀:Bs}{β:Loc}{w:World}
theorem Cf {S:Sp} (ids:List Nat) (tb:List (List Nat×List Nat×List Nat×Bool)) (nid:Nat) (hok:oX ops tb nid=true) (hnid:ids.length=nid) (hnd:ids.Nodup)
  (h:ip S T ops ids (dv ops.toList tb) s (bx fun s'=>Q .normal s')):nJ ops=true∧∃I:(Nat→Bool)→St→Prop,I (fun _=>false) s∧
    (∀(L:Nat→Bool) (s:St) (i:Nat) (o:Oper),I L s→ops[i]? = some o→L i=false→(∀e∈o.after.toList,Region.binds .any e=true→L e.on=true)→
      (∀j o',L j=true→ops[j]? = some o'→∀e∈o'.after.toList,Region.binds .any e=true→L e.on=true)→kP ops o s∧opA S T o s (bx fun s'=>I (upd L i true) s'))∧
    (∀L s',I L s'→(∀i,i<ops.size→L i=true)→Q .normal s'):=by
 subst hnid
 unfold oX uB at hok
 generalize vz ops=tab at hok
 simp only[l7,E9] at hok
 obtain⟨⟨⟨hbk,hcl⟩,htl⟩,hall⟩:=hok
 have hzl:(dv ops.toList tb).length=ops.size:=by rw[nN (by simpa using htl)];simp
 have hent:∀i,i<ops.size→∃e,(dv ops.toList tb)[i]? = some e∧ops[i]? = some e.o∧tb[i]? = some (e.rd,e.hd,e.ef,e.full):=fun i hi=>by
  have h1:i<(dv ops.toList tb).length:=a6
  refine⟨_,s7 h1,?_⟩
  have:=db (s7 h1)
  simpa using this
 have hinj:∀a b,a<ids.length→b<ids.length→ids.getD a 0=ids.getD b 0→a=b:=fun a b ha hb e=>by
  rw[A8,A8,s7 ha,s7 hb] at e
  simp only[x8] at e
  exact(Q5 hnd).1 e
 -- the checks,by operation
 have hchk:∀(i:Nat) (e:Ent),i<ops.size→ops[i]? = some e.o→tb[i]? = some (e.rd,e.hd,e.ef,e.full)→
   (∀r∈e.rd,∀(j:Nat) (e':Oper),j<ops.size→ops[j]? = some e'→e'.dst=some r→(((tb[j]?).map fun t'=>t'.2.2.2).getD false)=false→eT tab i j=true)∧
   (∀(j:Nat) (o':Oper),j<ops.size→j≠i→ops[j]? = some o'→o'.dst=none∨o'.dst≠e.o.dst)∧
   (∀a,a<ids.length→a∉e.hd→∀j t',j<ops.size→tb[j]? = some t'→a∈t'.2.2.1→eT tab i j=true∨eT tab j i=true∨i=j)∧
   (∀a∈e.hd,a<ids.length)∧(∀a∈e.ef,a<ids.length)∧
   (∀a∈e.ef,∀j t',j<ops.size→tb[j]? = some t'→a∈t'.2.2.1→eT tab i j=true∨eT tab j i=true∨i=j)∧
   (e.full=true→i+1=ops.size∧∀j,j<i→eT tab i j=true):=by
  intro i e hi ho ht
  have h1:=r0.1 hall i (A2.2 hi)
  rw[ho,ht] at h1
  simp only[D5,w8,x8,l7] at h1
  obtain⟨⟨⟨⟨⟨⟨c1,c2⟩,c3⟩,c4⟩,c5⟩,c6⟩,c7⟩:=h1
  refine⟨fun r hr j o' hj hoj hd hfj=>?_,fun j o' hj hne hoj=>?_,fun a ha hna j t' hj htj hat=>?_,fun a ha=>?_,fun a ha=>?_,fun a ha j t' hj htj hat=>?_,fun hf=>?_⟩
  ·have:=r0.1 (r0.1 c1 r hr) j (A2.2 hj)
   rw[hoj,hfj] at this
   simp only[w8,x8,R2,C3,z8] at this
   rcases this with h|h
   ·exact h
   ·exact absurd hd h
  ·have:=r0.1 c2 j (A2.2 hj)
   rw[hoj] at this
   simp only[w8,x8,C3,z8,E9,M7] at this
   rcases this with h|h|h
   ·exact absurd h.symm hne
   ·exact .inl h
   ·exact .inr h
  ·have:=r0.1 c3 a (A2.2 ha)
   simp only[C3,D2,r0,A2] at this
   rcases this with h|h
   ·exact absurd h hna
   ·have:=h j hj
    rw[htj] at this
    simp only[w8,x8,E9,E3] at this
    rcases this with((h|h)|h)|h
    ·exact .inl h
    ·exact .inr (.inl h)
    ·exact .inr (.inr h)
    ·rw[D2.2 hat] at h;cases h
  ·exact G9 (r0.1 c4 a ha)
  ·exact G9 (r0.1 c5 a ha)
  ·have:=r0.1 (r0.1 c6 a ha) j (A2.2 hj)
   rw[htj] at this
   simp only[w8,x8,C3,E9,E3] at this
   rcases this with((h|h)|h)|h
   ·exact .inl h
   ·exact .inr (.inl h)
   ·exact .inr (.inr h)
   ·rw[D2.2 hat] at h;cases h
  ·rw[hf] at c7
   simp only[L4,L5,l7,E9,r0,A2] at c7
   exact c7
 have hfull:∀(i:Nat) (e:Ent),(dv ops.toList tb)[i]? = some e→e.full=true→i+1=(dv ops.toList tb).length:=fun i e hi hf=>by
  have hlt:i<ops.size:=by rw[←hzl];exact(l0.1 hi).1
  have h2:=db hi
  rw[hzl]
  exact((hchk i e hlt (by simpa using h2.1) h2.2).2.2.2.2.2.2 hf).1
 obtain⟨t,t0,t1,t2,t3⟩:=rm _ _ h hfull
 let dst:Nat→Option Nat:=fun i=>(ops[i]?).bind (·.dst)
 let ef:Nat→List Nat:=fun i=>((tb[i]?).map (·.2.2.1)).getD []
 -- how the trace goes
 have tf:∀(i:Nat) (e:Ent),i<ops.size→(dv ops.toList tb)[i]? = some e→e.full=false→∀d,dst i≠some d→(t (i+1)).f d=(t i).f d:=fun i e hi he hf d hd=>by
  obtain⟨v,m,_,h2⟩:=t1 i e he hf
  rw[h2]
  have h3:ops[i]? = some e.o:=by simpa using(db he).1
  simp only[dst,h3,D5] at hd
  simp only[eO]
  cases hq:e.o.dst with
  |none=>rfl
  |some d'=>simp only[lR,upd];rw[if_neg (fun e'=>hd (by rw[hq,e']))]
 have tm:∀(i:Nat) (e:Ent),i<ops.size→(dv ops.toList tb)[i]? = some e→e.full=false→∀id,(∀a∈ef i,ids.getD a 0≠id)→(t (i+1)).gen id=(t i).gen id∧(t (i+1)).obj id=(t i).obj id:=fun i e hi he hf id hd=>by
  obtain⟨v,m,_,h2⟩:=t1 i e he hf
  rw[h2]
  have h3:=(db he).2
  simp only[ef,h3,w8,x8] at hd
  simp only[eO]
  exact⟨cY hd,cY hd⟩
 -- how many are walked by themselves
 obtain⟨N,hN,hNf,hNl⟩:∃N,N≤ops.size∧(∀(i:Nat) (e:Ent),i<N→(dv ops.toList tb)[i]? = some e→e.full=false)∧(N=ops.size∨(N+1=ops.size∧∃e,(dv ops.toList tb)[N]? = some e∧e.full=true)):=by
  by_cases hlast:∃(i:Nat) (e:Ent),(dv ops.toList tb)[i]? = some e∧e.full=true
  ·obtain⟨i,e,he,hf⟩:=hlast
   have h1:=hfull i e he hf
   rw[hzl] at h1
   refine⟨i,a6,fun j e' hj hj'=>?_,.inr ⟨h1,e,he,hf⟩⟩
   cases hq:e'.full with
   |false=>rfl
   |true=>have:=hfull j e' hj' hq;rw[hzl] at this;omega
  ·refine⟨ops.size,j9 _,fun j e' hj hj'=>?_,.inl rfl⟩
   cases hq:e'.full with
   |false=>rfl
   |true=>exact absurd ⟨j,e',hj',hq⟩ hlast
 have tfs:∀(d k i:Nat),i≤k→k≤N→(∀j,i≤j→j<k→dst j≠some d)→(t k).f d=(t i).f d:=by
  intro d k
  induction k with
  |zero=>intro i hi _ _;rw[show i=0 by omega]
  |succ k ih=>
    intro i hi hk hd
    by_cases hik:i=k+1
    ·subst hik;rfl
    ·obtain⟨e,he,_,_⟩:=hent k a6
     rw[tf k e a6 he (hNf k e a6 he) d (hd k a6 a6)]
     exact ih i a6 a6 (fun j h1 h2=>hd j h1 a6)
 have tms:∀(id k i:Nat),i≤k→k≤N→(∀j,i≤j→j<k→∀a∈ef j,ids.getD a 0≠id)→(t k).gen id=(t i).gen id∧(t k).obj id=(t i).obj id:=by
  intro id k
  induction k with
  |zero=>intro i hi _ _;rw[show i=0 by omega];exact⟨rfl,rfl⟩
  |succ k ih=>
    intro i hi hk hd
    by_cases hik:i=k+1
    ·subst hik;exact⟨rfl,rfl⟩
    ·obtain⟨e,he,_,_⟩:=hent k a6
     obtain⟨m1,m2⟩:=tm k e a6 he (hNf k e a6 he) id (hd k a6 a6)
     rw[m1,m2]
     exact ih i a6 a6 (fun j h1 h2=>hd j h1 a6)
 have hdist:∀(i j d:Nat),i<ops.size→j<ops.size→dst i=some d→dst j=some d→i=j:=fun i j d hi hj h1 h2=>by
  rcases K9 i j with hij|hij
  ·exfalso
   obtain⟨e,he,ho,htb⟩:=hent i hi
   obtain⟨e',he',ho',htb'⟩:=hent j hj
   simp only[dst,ho,ho',D5] at h1 h2
   rcases(hchk i e hi ho htb).2.1 j e'.o hj a6 ho' with h|h
   ·rw[h] at h2;cases h2
   ·exact h (by rw[h1,h2])
  ·rcases K9 j i with hji|hji
   ·exfalso
    obtain⟨e,he,ho,htb⟩:=hent i hi
    obtain⟨e',he',ho',htb'⟩:=hent j hj
    simp only[dst,ho,ho',D5] at h1 h2
    rcases(hchk i e hi ho htb).2.1 j e'.o hj a6 ho' with h|h
    ·rw[h] at h2;cases h2
    ·exact h (by rw[h1,h2])
   ·omega
 -- where all have come up,it is the text's state
 have hsame:∀(k:Nat) (L:Nat→Bool) (s':St),k=N→(∀i,i<k→L i=true)→Ae N dst ef ids t L s'→s'=t k:=by
  rintro k L ⟨f',g',o'⟩ rfl hL hI
  have h1:f'=(t k).f:=by
   funext d
   by_cases hd:∃i,i<k∧dst i=some d
   ·obtain⟨i,hi,hd⟩:=hd
    rw[show f' d=_ from hI.f i d hi hd (hL i hi)]
    exact(tfs d k (i+1) a6 (j9 _) (fun j h1 h2 h3=>by have:=hdist i j d a6 a6 hd h3;omega)).symm
   ·have h0:∀i,i<k→dst i≠some d:=fun i hi h=>hd ⟨i,hi,h⟩
    rw[show f' d=_ from hI.f0 d h0]
    exact(tfs d k 0 a6 (j9 _) (fun j _ h2=>h0 j h2)).symm
  have h2:g'=(t k).gen:=funext fun id=>(hI.m id k (j9 _) (fun j a hj _ _=>⟨fun _=>hj,fun _=>hL j hj⟩)).1
  have h3:o'=(t k).obj:=funext fun id=>(hI.m id k (j9 _) (fun j a hj _ _=>⟨fun _=>hj,fun _=>hL j hj⟩)).2
  rw[h1,h2,h3]
 refine⟨hbk,fun L s'=>(N<ops.size→L N=true→Q .normal s')∧((N<ops.size→L N=false)→Ae N dst ef ids t L s'),?_,?_,?_⟩
 ·refine⟨fun _ h=>(by cases h),fun _=>⟨fun i d _ _ h=>(by cases h),fun d _=>by rw[t0],fun id k hk hc=>?_⟩⟩
  have:=tms id k 0 a6 hk (fun j _ hj a ha e=>by have:=(hc j a a6 ha e).2 hj;cases this)
  rw[this.1,this.2,t0]
  exact⟨rfl,rfl⟩
 ·intro L s' i o hI ho hL hdep hid
  have hi:=(A7.1 ho).1
  obtain⟨e,he,ho',htb⟩:=hent i hi
  obtain rfl:o=e.o:=by rw[ho] at ho';cases ho';rfl
  have hcls:=dO hcl hid i e.o ho hdep
  have hck:=hchk i e hi ho htb
  by_cases hiN:i<N
  ·have hLN:N<ops.size→L N=false:=fun hlt=>by
    cases hq:L N with
    |false=>rfl
    |true=>
      exfalso
      rcases hNl with h|⟨h,e2,he2,hf2⟩
      ·omega
      ·have hz:=db he2
       have ho2:ops[N]? = some e2.o:=by simpa using hz.1
       have:=(hchk N e2 hlt ho2 hz.2).2.2.2.2.2.2 hf2
       have h3:=dO hcl hid N e2.o ho2 (fun e' he' hb'=>hid N _ hq ho2 e' he' hb') i (this.2 i hiN)
       rw[hL] at h3
       exact absurd h3.1 a7
   have hD:=hI.2 hLN
   obtain⟨v,m,⟨hml,hst,hgd⟩,hn⟩:=t1 i e he (hNf i e hiN he)
   have hr1:∀r∈e.rd,s'.f r=(t i).f r:=fun r hr=>by
    by_cases hd:∃j,j<N∧dst j=some r
    ·obtain⟨j,hj,hd⟩:=hd
     obtain⟨e2,he2,ho2,htb2⟩:=hent j a6
     have hd2:e2.o.dst=some r:=by simpa[dst,ho2] using hd
     obtain⟨hLj,hji⟩:=hcls j (hck.1 r hr j e2.o a6 ho2 hd2 (by rw[htb2];exact hNf j e2 hj he2))
     rw[hD.f j r hj hd hLj]
     exact(tfs r i (j+1) a6 a6 (fun k h1 h2 h3=>by have:=hdist j k r a6 a6 hd h3;omega)).symm
    ·have h0:∀j,j<N→dst j≠some r:=fun j hj h=>hd ⟨j,hj,h⟩
     rw[hD.f0 r h0]
     exact(tfs r i 0 a6 a6 (fun j _ h2=>h0 j a6)).symm
   have r1:maskf e.rd (t i).f s'.f=s'.f:=ni hr1
   have hvis:∀id,(∀a∈e.hd,ids.getD a 0≠id)→s'.gen id=(t i).gen id∧s'.obj id=(t i).obj id:=fun id hv=>by
    refine hD.m id i a6 (fun j a hj ha hai=>?_)
    obtain⟨e2,he2,ho2,htb2⟩:=hent j a6
    have ha2:a∈e2.ef:=by simpa[ef,htb2] using ha
    have halt:a<ids.length:=(hchk j e2 a6 ho2 htb2).2.2.2.2.1 a ha2
    rcases hck.2.2.1 a halt (fun h=>hv a h hai) j _ a6 htb2 ha2 with h|h|h
    ·have:=hcls j h
     exact⟨fun _=>this.2,fun _=>this.1⟩
    ·constructor
     ·intro hLj
      have:=dO hcl hid j e2.o ho2 (fun e' he' hb'=>hid j _ hLj ho2 e' he' hb') i h
      rw[hL] at this
      exact absurd this.1 a7
     ·intro hji
      exfalso
      have h1:=r0.1 hcl j (A2.2 a6)
      have h2:=r0.1 h1 i (by simpa[eT] using h)
      simp only[l7,z8] at h2
      omega
    ·subst h
     rw[hL]
     exact⟨fun h=>(by cases h),fun h=>a6⟩
   have r2:maskm ids e.hd (t i).gen s'.gen=s'.gen:=ig fun id hv=>(hvis id hv).1
   have r3:maskm ids e.hd (t i).obj s'.obj=s'.obj:=ig fun id hv=>(hvis id hv).2
   have h1:=hst s'.f s'.gen s'.obj
   rw[r1,r2,r3] at h1
   refine⟨hgd.ok hr1,h1 _ ?_⟩
   refine⟨fun hlt h=>?_,fun _=>⟨fun j d hj hd hLj=>?_,fun d hd=>?_,fun id k hk hc=>?_⟩⟩
   ·simp only[upd] at h
    rw[if_neg a6,hLN hlt] at h
    cases h
   ·simp only[upd] at hLj
    by_cases hji:j=i
    ·subst hji
     have hd2:e.o.dst=some d:=by simpa[dst,ho] using hd
     rw[hn]
     simp only[eO,hd2,lR,upd,A9]
    ·rw[if_neg hji] at hLj
     have hne:e.o.dst≠some d:=fun h=>hji (hdist j i d a6 hi hd (by simpa[dst,ho] using h))
     rw[←hD.f j d hj hd hLj]
     simp only[eO]
     cases hq:e.o.dst with
     |none=>rfl
     |some d'=>simp only[lR,upd];rw[if_neg (fun e'=>hne (by rw[hq,e']))]
   ·rw[←hD.f0 d hd]
    have hne:e.o.dst≠some d:=fun h=>hd i hiN (by simpa[dst,ho] using h)
    simp only[eO]
    cases hq:e.o.dst with
    |none=>rfl
    |some d'=>simp only[lR,upd];rw[if_neg (fun e'=>hne (by rw[hq,e']))]
   ·have hef:ef i=e.ef:=by simp[ef,htb]
    by_cases hmine:∃a∈e.ef,ids.getD a 0=id
    ·obtain⟨a,ha,hai⟩:=hmine
     have hik:i<k:=(hc i a hiN (by rw[hef];exact ha) hai).1 (by simp[upd])
     have halt:=hck.2.2.2.2.1 a ha
     have:=tms id k (i+1) a6 hk (fun j h1 h2 b hb hbi=>by
      obtain⟨e2,he2,ho2,htb2⟩:=hent j a6
      have hb2:b∈e2.ef:=by simpa[ef,htb2] using hb
      have hblt:=(hchk j e2 a6 ho2 htb2).2.2.2.2.1 b hb2
      obtain rfl:a=b:=hinj a b halt hblt (by rw[hai,hbi])
      have hLj:L j=true:=by
       have:=(hc j a a6 hb hbi).2 h2
       simp only[upd] at this
       rwa [if_neg a6] at this
      rcases hck.2.2.2.2.2.1 a ha j _ a6 htb2 hb2 with h|h|h
      ·have:=(hcls j h).2;omega
      ·have:=dO hcl hid j e2.o ho2 (fun e' he' hb'=>hid j _ hLj ho2 e' he' hb') i h
       rw[hL] at this
       exact absurd this.1 a7
      ·omega)
     rw[this.1,this.2,hn]
     simp only[eO]
     exact⟨jl (by simpa using hml) ⟨a,ha,hai⟩,jl (by simpa using hml) ⟨a,ha,hai⟩⟩
    ·have hno:∀a∈e.ef,ids.getD a 0≠id:=fun a ha h=>hmine ⟨a,ha,h⟩
     simp only[eO]
     rw[cY hno,cY hno]
     refine hD.m id k hk (fun j a hj ha hai=>?_)
     have hji:j≠i:=fun h=>by subst h;rw[hef] at ha;exact hno a ha hai
     have:=hc j a hj ha hai
     simp only[upd] at this
     rwa [if_neg hji] at this
  ·have hiN':i=N:=by
    rcases hNl with h|⟨h,_⟩ <;> omega
   subst hiN'
   rcases hNl with h|⟨h,e2,he2,hf2⟩
   ·omega
   ·obtain rfl:e=e2:=by rw[he] at he2;cases he2;rfl
    have hD:=hI.2 (fun _=>hL)
    have hall2:∀j,j<i→L j=true:=fun j hj=>(hcls j ((hck.2.2.2.2.2.2 hf2).2 j hj)).1
    rw[hsame i L s' rfl hall2 hD]
    obtain⟨hla,hgd⟩:=t2 i e he hf2
    refine⟨hgd.ok fun _ _=>rfl,hla _ (fun s'' hs=>?_)⟩
    exact⟨fun _ _=>hs,fun hh=>by have:=hh hi;simp[upd] at this⟩
 ·intro L s' hI hL
  rcases hNl with h|⟨h,_⟩
  ·subst h
   have hD:=hI.2 (fun h=>absurd h a6)
   have h1:=t3 (fun i e he=>hNf i e (by rw[←hzl];exact(l0.1 he).1) he)
   rw[hzl] at h1
   rw[hsame _ L s' rfl hL hD]
   exact h1
  ·exact hI.1 a6 (hL N a6)
end
section
variable {P:Program}{T:Nat→TI}{b₀:Bs}{w:World}{rd:Option Nat}{Φ:St→Loc→List Deferred→World→Prop}{Ψ:fP}
theorem tt {hT:aQ P T} (hΦ:aW b₀ Φ) {B N:Nat}{ops:Array Oper}{ds:List Deferred}{Q:Exit→Act→World→Prop} (hnd:ops.toList.all aJ=true) (hds:eD N ops.toList=true) (I:(Nat→Bool)→St→Prop)
  (hstep:∀(L:Nat→Bool) (s:St) (i:Nat) (o:Oper),I L s→ops[i]? = some o→L i=false→(∀e∈o.after.toList,Region.binds .any e=true→L e.on=true)→
    (∀j o',L j=true→ops[j]? = some o'→∀e∈o'.after.toList,Region.binds .any e=true→L e.on=true)→kP ops o s∧opA (spF P rd b₀ Φ B Ψ) T o s (bx fun s'=>I (upd L i true) s')) :
  ∀(fuel:Nat) (listed:Array Bool) {s:St}{β:Loc}{a:Act}{w:World},listed.size=ops.size→listed.toList.count false≤fuel→Rel b₀ N s β a w→Φ s β ds w→I (fun i=>listed.getD i false) s→
   (∀j o',listed.getD j false=true→ops[j]? = some o'→∀e∈o'.after.toList,Region.binds .any e=true→listed.getD e.on false=true)→
   (∀L s' β' a' w',I L s'→Rel b₀ N s' β' a' w'→Φ s' β' ds w'→(∃listed',L=(fun i=>listed'.getD i false)∧listed'.size=ops.size∧Region.ready .any ops listed'=[])→Q .normal { a' with defers:=ds } w')→
   (∀ch s' β' a' w',Ψ ch s'→Rel b₀ N s' β' a' w'→Φ s' β' ds w'→Q (.panic ch) { a' with defers:=ds } w')→
   wpAnyIn (fen rd) 0 P .any ops Q fuel listed { a with defers:=ds } w
 |0,listed,s,β,a,w,hsz,hc,hr,hφ,hI,hid,hQ,hX=>by
   have hall:∀i,i<ops.size→listed.getD i true=true:=fun i hi=>by
    have hnf:false∉listed.toList:=fun h=>by
     have:=P7.2 h;omega
    rw[v7,y7 a6]
    simp only[x8]
    cases hq:listed[i]'a6 with
    |true=>rfl
    |false=>exact absurd (hq▸O8.2 (Q1 a6)) hnf
   have hrd:Region.ready .any ops listed=[]:=by
    unfold Region.ready
    rw[K8]
    intro i hi
    simp[hall i (A2.1 hi)]
   exact⟨hrd,hQ _ s β a w hI hr hφ ⟨listed,rfl,hsz,hrd⟩⟩
 |fuel+1,listed,s,β,a,w,hsz,hc,hr,hφ,hI,hid,hQ,hX=>by
   refine⟨fun hrd=>hQ _ s β a w hI hr hφ ⟨listed,rfl,hsz,hrd⟩,fun i hi=>?_⟩
   unfold Region.ready at hi
   simp only[Q9,A2,l7,E3] at hi
   obtain⟨hi1,hi2,hi3⟩:=hi
   have ho:ops[i]? = some ops[i]:=y7 hi1
   rw[ho] at hi3
   simp only[w8,x8,N3,C3,E3] at hi3
   have hli:listed[i]? = some false:=by
    rw[v7,y7 a6] at hi2
    rw[y7 a6]
    simpa using hi2
   have hL:listed.getD i false=false:=by rw[v7,hli];rfl
   have hedge:∀e∈ops[i].after.toList,Region.binds .any e=true→listed.getD e.on false=true:=fun e he hb=>by
    rcases hi3 e (by simpa using he) with h|h
    ·rw[hb] at h;cases h
    ·exact h
   obtain⟨hgd,hst⟩:=hstep _ s i ops[i] hI ho hL hedge hid
   have hgi:Region.wanted ops[i] (yielded ops a.tmps)=true:=by
    unfold kP at hgd
    cases hg:(ops[i]).guard with
    |none=>simp[Region.wanted,hg]
    |some p=>
      obtain⟨j,want⟩:=p
      rw[hg] at hgd
      obtain⟨d,hj,hb⟩:=hgd
      have hy:=hr.yielded hj hb
      simp[Region.wanted,hg,hy]
   have hdi:∀d,(ops[i]).dst=some d→d<N:=fun d hd=>by
    have:=r0.1 hds ops[i] (F8 hi1)
    rw[hd] at this
    simpa using this
   have hni:aJ ops[i]=true:=r0.1 hnd ops[i] (F8 hi1)
   unfold wpOpIn
   rw[ho]
   simp only
   rw[if_pos hgi]
   have hset:(fun j=>(listed.setIfInBounds i true).getD j false)=upd (fun j=>listed.getD j false) i true:=by
    funext j
    simp only[upd,v7,L0]
    by_cases hj:i=j
    ·subst hj;simp[hsz,hi1]
    ·have:¬j=i:=fun e=>hj e.symm
     simp[hj,this]
   refine kO hT hΦ hr hφ hni hdi hst (fun s' β' a' w' hI' hr' hφ'=>?_) hX
   refine tt (hT:=hT) hΦ hnd hds I hstep fuel (listed.setIfInBounds i true) (by simpa using hsz) (by have:=count_set hli;omega) hr' hφ' (by rw[hset];exact hI') (fun j o' hj hoj e he hb=>?_) hQ hX
   have e1:=congrFun hset
   simp only[upd] at e1
   rw[e1] at hj ⊢
   by_cases hej:e.on=i
   ·rw[if_pos hej]
   ·rw[if_neg hej]
    by_cases hji:j=i
    ·subst hji
     rw[ho] at hoj
     cases hoj
     exact hedge e he hb
    ·rw[if_neg hji] at hj
     exact hid j o' hj hoj e he hb
theorem tu (hT:aQ P T) (hm:P.follows .mixedOrders=true) (hΦ:aW b₀ Φ) {B id:Nat}{q:Box Q} (hnd:ops.toList.all aJ=true) (hbk:nJ ops=true) (I:(Nat→Bool)→St→Prop) (h0:I (fun _=>false) s)
  (hstep:∀(L:Nat→Bool) (s:St) (i:Nat) (o:Oper),I L s→ops[i]? = some o→L i=false→(∀e∈o.after.toList,Region.binds .any e=true→L e.on=true)→
    (∀j o',L j=true→ops[j]? = some o'→∀e∈o'.after.toList,Region.binds .any e=true→L e.on=true)→kP ops o s∧opA (spF P rd b₀ Φ B Ψ) T o s (bx fun s'=>I (upd L i true) s'))
  (hend:∀L s',I L s'→(∀i,i<ops.size→L i=true)→Q .normal s'):js (spF P rd b₀ Φ B Ψ) T id ops s q:=by
 refine .inr ⟨fun e s'=>e=.normal∧Q .normal s',fun N β a ds w hc hr hφ=>?_,fun e s' ⟨h1,h2⟩=>h1▸h2⟩
 have hr1:Rel b₀ N s β a { w with drawn:=w.drawn+1 }:=hr.of_heap rfl
 have hφ1:Φ s β ds { w with drawn:=w.drawn+1 }:=hΦ _ _ _ _ _ _ _ hφ (Tr.same rfl rfl rfl)
 refine wpIn_region_any hm (tt (hT:=hT) hΦ hnd hc I hstep ops.size (Array.replicate ops.size false) a7 a7 hr1 hφ1 ?_ (fun j o' hj=>?_) (fun L s' β' a' w' h2 h4 h5 h6=>⟨s',β',a',ds,rfl,.inl ⟨rfl,hend L s' h2 (by obtain⟨listed,rfl,e1,e2⟩:=h6;exact oQ hbk e1 e2)⟩,h4,h5⟩) (fun ch s' β' a' w' h1 h2 h3=>⟨s',β',a',ds,rfl,.inr ⟨ch,rfl,h1⟩,h2,h3⟩))
 ·have:(fun i=>(Array.replicate ops.size false).getD i false)=fun _=>false:=by
   funext i
   rw[v7,C1]
   split <;> rfl
  rw[this];exact h0
 ·rw[v7,C1] at hj
  split at hj <;> simp at hj
theorem cT (hT:aQ P T) (hm:P.follows .mixedOrders=true) (hΦ:aW b₀ Φ) {B id:Nat}{q:Box Q} (ids:List Nat) (tb:List (List Nat×List Nat×List Nat×Bool)) (nid:Nat) (hnd0:ops.toList.all aJ=true) (hok:oX ops tb nid=true) (hnid:ids.length=nid) (hnd:ids.Nodup)
  (h:ip (spF P rd b₀ Φ B Ψ) T ops ids (dv ops.toList tb) s (bx fun s'=>Q .normal s')):js (spF P rd b₀ Φ B Ψ) T id ops s q:=by
 obtain⟨h1,I,h2,h3,h4⟩:=Cf (Q:=Q) ids tb nid hok hnid hnd h
 exact tu hT hm hΦ hnd0 h1 I h2 h3 h4
end
section steps
variable {S:Sp}{T:Nat→TI}{ops:Array Oper}{ids:List Nat}{f:Nat→AV}{g:Nat→Nat}{ob:Nat→Option (List C)}{K:St→Prop}{k:Box K}{op:Op}{ty:TypeId}{ps:String}{af:Array Edge}{gd:Option (Nat×Bool)}{rd hd:List Nat}{r:List Ent}{d:Nat}
theorem au {v:AV} (hg:GdE ops ⟨⟨some d,op,ty,ps,af,gd⟩,rd,hd,[],false⟩ ⟨f,g,ob⟩) (h1:∀(fa:Nat→AV) (ga:Nat→Nat) (oa:Nat→Option (List C)) (K':St→Prop),K' ⟨upd (maskf rd f fa) d v,maskm ids hd g ga,maskm ids hd ob oa⟩→opA S T ⟨some d,op,ty,ps,af,gd⟩ ⟨maskf rd f fa,maskm ids hd g ga,maskm ids hd ob oa⟩ (bx K'))
  (h2:ip S T ops ids r ⟨upd f d v,g,ob⟩ k):ip S T ops ids (⟨⟨some d,op,ty,ps,af,gd⟩,rd,hd,[],false⟩::r) ⟨f,g,ob⟩ k:=by
 unfold ip
 exact⟨v,[],⟨rfl,fun fa ga oa K' hK=>h1 fa ga oa K' hK,hg⟩,h2⟩
theorem bI {v:AV}{a x:Nat}{y:Option (List C)} (hg:GdE ops ⟨⟨some d,op,ty,ps,af,gd⟩,rd,hd,[a],false⟩ ⟨f,g,ob⟩) (h1:∀(fa:Nat→AV) (ga:Nat→Nat) (oa:Nat→Option (List C)) (K':St→Prop),K' ⟨upd (maskf rd f fa) d v,upd (maskm ids hd g ga) (ids.getD a 0) x,upd (maskm ids hd ob oa) (ids.getD a 0) y⟩→opA S T ⟨some d,op,ty,ps,af,gd⟩ ⟨maskf rd f fa,maskm ids hd g ga,maskm ids hd ob oa⟩ (bx K'))
  (h2:ip S T ops ids r ⟨upd f d v,upd g (ids.getD a 0) x,upd ob (ids.getD a 0) y⟩ k):ip S T ops ids (⟨⟨some d,op,ty,ps,af,gd⟩,rd,hd,[a],false⟩::r) ⟨f,g,ob⟩ k:=by
 unfold ip
 exact⟨v,[(x,y)],⟨rfl,fun fa ga oa K' hK=>h1 fa ga oa K' hK,hg⟩,h2⟩
end steps
end
section
abbrev Pan:=List PanicEntry→(Nat→Nat)→Obs→Prop
def Pan.on (Ψ:Pan):fP:=fun ch s=>Ψ ch s.gen s.obj
variable {R:AV→(Nat→Nat)→Obs→Prop}{K:St→Prop}
section
variable {P:Program}{T:Nat→TI}{b₀:Bs}{β:Loc}{w:World}{B:Nat}{Ψ:Pan}{rd:Option Nat}{Φ:St→Loc→List Deferred→World→Prop}
def Jv (b₀:Bs) (β:Loc) (fa:Nat→AV) (g:Nat→Nat) (ob:Obs) (w:World) (R:AV→(Nat→Nat)→Obs→Prop) (Ψ:Pan) (e:Ending) (w':World):Prop:=
 (∃v r g' ob' β',e=.returned v∧R r g' ob'∧ae b₀ β' g' ob' w' r v∧
    (∀id cells,ob' id=some cells→cG b₀ β' g' ob' w' (g' id) cells (β' id))∧(∀id id' a a',(ob' id).isSome=true→(ob' id').isSome=true→β' id=some a→β' id'=some a'→a.block=a'.block→id=id')∧
    Tr b₀ β ⟨fa,g,ob⟩ w β' ⟨fa,g',ob'⟩ w')∨
 (∃ch g' ob' β',e=.panicked ch∧Ψ ch g' ob'∧
    (∀id cells,ob' id=some cells→cG b₀ β' g' ob' w' (g' id) cells (β' id))∧(∀id id' a a',(ob' id).isSome=true→(ob' id').isSome=true→β' id=some a→β' id'=some a'→a.block=a'.block→id=id')∧
    Tr b₀ β ⟨fa,g,ob⟩ w β' ⟨fa,g',ob'⟩ w')
def eJ (P:Program) (f:FuncId) (xs:List AV) (g:Nat→Nat) (ob:Obs) (R:AV→(Nat→Nat)→Obs→Prop) (Ψ:Pan):Prop:=
 Av P f∧∀(b₀:Bs) (N:Nat) (β:Loc) (a:Act) (fa:Nat→AV) (w:World) (vs:List Value),Rel b₀ N ⟨fa,g,ob⟩ β a w→aE b₀ β g ob w xs vs→
  Calls P f vs.toArray w (Jv b₀ β fa g ob w R Ψ)
theorem eJ.mono {f:FuncId}{xs:List AV}{g:Nat→Nat}{ob:Obs}{R R':AV→(Nat→Nat)→Obs→Prop}{Ψ':Pan} (h:eJ P f xs g ob R Ψ) (hr:∀r g' ob',R r g' ob'→R' r g' ob') (hp:∀ch g' ob',Ψ ch g' ob'→Ψ' ch g' ob'):eJ P f xs g ob R' Ψ':=
 ⟨h.1,fun b₀ N β a fa w vs h1 h2=>(h.2 b₀ N β a fa w vs h1 h2).mono fun _ _ q=>q.imp (fun⟨v,r,g',ob',β',q1,q2,q3⟩=>⟨v,r,g',ob',β',q1,hr _ _ _ q2,q3⟩) (fun⟨ch,g',ob',β',q1,q2,q3⟩=>⟨ch,g',ob',β',q1,hp _ _ _ q2,q3⟩)⟩
def Cg (b₀:Bs) (β0:Loc) (s0:St) (w0:World):St→Loc→List Deferred→World→Prop:=fun s β ds w=>ds=[]∧Tr b₀ β0 s0 w0 β s w
theorem aa {β0:Loc}{s0:St}{w0:World}:aW b₀ (Cg b₀ β0 s0 w0):=fun _ _ _ _ _ _ _ h ht=>⟨h.1,h.2.trans ht⟩
theorem ez (B:Nat) (hT:aQ P T) (hm:P.follows .mixedOrders=true) {f:FuncId}{fn:Func}{c:Code} (hf:P.funcs[f]? = some fn) (hb:fn.body=some c) (hn:(fn.name == "runtime.NumGoroutine")=false)
  (rs:List ResultVar) (hres:fn.results=rs.toArray) (hcm:gy c=true) (hok:codeOk fn.ntmps c=true) {xs:List AV} (hargs:xs.length≤fn.ntmps) {g:Nat→Nat}{ob:Obs}
  (h:∀b₀ β0 s0 w0,wpC (spF P none b₀ (Cg b₀ β0 s0 w0) B Ψ.on) T c (bx (yW T rs R)) ⟨dC xs,g,ob⟩):eJ P f xs g ob R Ψ:=by
 refine⟨⟨fn,hf,by rw[hb];rfl,hn⟩,fun b₀ N β a fa w vs hr0 hv=>?_⟩
 refine jd (n:=0) (callsIn_of_wp hf hb trivial ?_)
 have hr:=lT (N:=fn.ntmps) hargs hr0 hv
 refine wpIn_mono (bN (rd:=none) (B:=B) (ds:=[]) hT hm aa c hcm hok hr ⟨rfl,Tr.refl⟩ (h b₀ β ⟨dC xs,g,ob⟩ w)) (fun e a' w' hp=>?_)
 obtain⟨s',β',a0,ds',rfl,hQ,hr',rfl,ht⟩:=hp
 rcases hQ with hQ|⟨ch,rfl,hQ⟩
 ·have hres':yW T rs R .ret s'→∃v,(results fn a0.tmps).run P w'=.ok v w'∧Jv b₀ β fa g ob w R Ψ (.returned v) w':=by
   rintro⟨s2,hvs,hR⟩
   obtain⟨β2,hr2,ht2⟩:=hvs b₀ fn.ntmps β' a0 w' hr'
   have hta:=ht.trans ht2
   obtain⟨v,avs,h1,h2,h3,_⟩:=dt hT hr2 hres hR
   exact⟨v,h1,.inl ⟨v,_,_,_,β2,rfl,h2,h3,hr2.obj,hr2.inj,⟨hta.size,hta.old,hta.keep,hta.os⟩⟩⟩
  cases e with
  |normal=>exact⟨rfl,hres' hQ⟩
  |ret=>exact⟨rfl,hres' hQ⟩
  |exit id=>exact hQ.elim
  |goto l=>exact hQ.elim
  |panic ch=>exact hQ.elim
  |outgrown=>exact hQ.elim
 ·exact⟨rfl,.inr ⟨ch,_,_,β',rfl,hQ,hr'.obj,hr'.inj,⟨ht.size,ht.old,ht.keep,ht.os⟩⟩⟩
theorem Ap (hΦ:aW b₀ Φ) {o:Oper}{s:St}{k:Box K}{f:FuncId}{args:Array Operand}{tys:Array TypeId} (ho:o.op=.call ⟨.value (.func f),args,tys⟩)
  (hp:eJ P f (args.toList.map s.ev) s.gen s.obj R Ψ) (hk:∀r g' ob',R r g' ob'→K (St.put ⟨s.f,g',ob'⟩ o.dst r)):bi (spF P rd b₀ Φ B Ψ.on) o s k:=by
 refine⟨fun s'=>∃r g' ob',R r g' ob'∧s'=St.put ⟨s.f,g',ob'⟩ o.dst r,fun N β a ds w hr hφ hdst next Q hn hx=>?_,fun _ ⟨r,g',ob',hr,e⟩=>e▸hk r g' ob' hr⟩
 have hnd:aJ o=true:=by simp[aJ,ho]
 refine eY hnd ?_
 unfold Oper.wp
 rw[gz ho hp.1 w]
 simp only[Oper.upon]
 have:=hp.2 b₀ N β a s.f w (args.toList.map a.eval) hr (gv hr _)
 rw[show (args.toList.map a.eval).toArray=args.map a.eval from G6 a7] at this
 refine this.mono fun e w' hE=>?_
 rcases hE with⟨v,r,g',ob',β',he,hR,hv,h1,h2,h3⟩|⟨ch,g',ob',β',he,hΨ,h1,h2,h3⟩
 ·subst he
  obtain⟨k1,k2⟩:=fU hr hdst hv h1 h2 h3
  exact⟨k1.defers,hn _ β' _ w' ⟨r,g',ob',hR,rfl⟩ k1 (hΦ _ _ _ _ _ _ _ hφ k2)⟩
 ·subst he
  have hk:eb b₀ β s.gen s.obj w β' g' ob' w':=h3.keep
  have ht:Tr b₀ β s w β' ⟨s.f,g',ob'⟩ w':=⟨h3.size,h3.old,hk,h3.os⟩
  exact hx ch ⟨s.f,g',ob'⟩ β' a w' hΨ ⟨hr.defers,hr.size,fun i=>ae.keep hk _ (hr.f i),h1,h2,B1 hr.base h3.size⟩ (hΦ _ _ _ _ _ _ _ hφ ht)
theorem xF {Ψ:fP}{o:Oper}{s:St}{k:Box K}{x:Operand} (ho:o.op=.panic x) {v:Value} (hv:∀(N:Nat) (β:Loc) (a:Act) (w:World),Rel b₀ N s β a w→(Instr.panic (a.eval x)).run P w=.halt (.panic v) w)
  (hk:Ψ [{ v,recovered:=false }] s):bi (spF P rd b₀ Φ B Ψ) o s k:=by
 refine⟨fun _=>False,fun N β a ds w hr hφ hdst next Q hn hx=>?_,fun _ h=>h.elim⟩
 have hnd:aJ o=true:=by simp[aJ,ho]
 refine eY hnd ?_
 unfold Oper.wp
 have:(execOp a.eval o).run P w=.halt (.panic v) w:=by
  simp[execOp,ho,hv N β a w hr,Result.andThen]
 rw[this]
 exact hx _ s β a w hk hr hφ
end
end
section
variable {K:St→Prop}{x:Operand}
section
variable {P:Program}{b₀:Bs}{rd:Option Nat}{Φ:St→Loc→List Deferred→World→Prop}{B:Nat}{Ψ:fP}
theorem rt (hΦ:aW b₀ Φ) {o:Oper}{s:St}{k:Box K}{t:TypeId} (ho:o.op=.makeInterface t x) {fs:Array Field} (hu:P.underlying t=some (.struct fs)) {kd:IntKind}{n:Int}
  (hx:s.ev x=.agg [.d (.int kd n)]) (hk:K (s.put o.dst (.exact (.iface t (.agg #[.int kd n]))))):bi (spF P rd b₀ Φ B Ψ) o s k:=by
 refine⟨fun s'=>s'=s.put o.dst (.exact (.iface t (.agg #[.int kd n]))),fun N β a ds w hr hφ hd next Q hn _=>?_,fun _ e=>e▸hk⟩
 refine eY (by simp[aJ,ho]) ?_
 have hv:=hr.ev x
 rw[hx] at hv
 simp only[ae] at hv
 obtain⟨vs,h1,h2,h3⟩:=hv
 obtain⟨u,hu1,hu2⟩:=h3 0 _ rfl
 simp only[aw] at hu2
 obtain rfl:=hu2.inv_int
 have hvs:vs = #[.int kd n]:=by
  apply Array.ext_getElem?
  intro j
  match j with
  |0=>rw[hu1];rfl
  |j+1=>rw[I1 (by rw[h2];simp),I1 a7]
 subst hvs
 have hex:(execOp a.eval o).run P w=.ok (.value (.iface t (.agg #[.int kd n]))) w:=by
  simp[execOp,ho,h1,Instr.makeInterface,run_underlying hu]
 have hr':=hr.put hd (x:=.exact (.iface t (.agg #[.int kd n]))) (v:=.iface t (.agg #[.int kd n])) (by simp only[ae])
 exact eK hex ⟨hr'.defers,hn _ β _ w rfl hr' (hΦ _ _ _ _ _ _ _ hφ (Tr.same (St.put_gen _ _ _) (St.put_obj _ _ _) rfl))⟩
theorem ru {o:Oper}{s:St}{k:Box K} (ho:o.op=.panic x) {t:TypeId}{u:Value} (hx:s.ev x=.exact (.iface t u)) (hk:Ψ [{ v:=.iface t u,recovered:=false }] s):bi (spF P rd b₀ Φ B Ψ) o s k:=by
 refine xF ho (v:=.iface t u) (fun N β a w hr=>?_) hk
 have hv:=hr.ev x
 rw[hx] at hv
 simp only[ae] at hv
 rw[hv]
 simp[Instr.panic]
end
end
end
section
attribute [local congr] Go.Am.ite_cc
section
variable {s:St}{K:St→Prop}{w:World}{a:Act}{o:Oper}{f:FuncId}{β:Loc}{tys:Array TypeId}{ds:List Deferred}{Q:Exit→Act→World→Prop}{u:Value}{ms:Array (String×TypeId)}{args:Array Operand}{R:AV→(Nat→Nat)→Obs→Prop}{caps:List PC}{x:Operand}{k:Box K}
section
variable {P:Program}{T:Nat→TI}{b₀:Bs}{rd:Option Nat}{Φ:St→Loc→List Deferred→World→Prop}{B:Nat}{Ψ:fP}{Ψ0:Pan}
theorem bu (hΦ:aW b₀ Φ) (ho:o.op=.call ⟨.value (.func f),args,tys⟩)
  (hp:eJ P f (args.toList.map s.ev) s.gen s.obj R Ψ0) (hx:∀ch g' ob',Ψ0 ch g' ob'→Ψ ch ⟨s.f,g',ob'⟩) (hk:∀r g' ob',R r g' ob'→K (St.put ⟨s.f,g',ob'⟩ o.dst r)):bi (spF P rd b₀ Φ B Ψ) o s k:=by
 refine⟨fun s'=>∃r g' ob',R r g' ob'∧s'=St.put ⟨s.f,g',ob'⟩ o.dst r,fun N β a ds w hr hφ hdst next Q hn hx'=>?_,fun _ ⟨r,g',ob',hr,e⟩=>e▸hk r g' ob' hr⟩
 have hnd:aJ o=true:=by simp[aJ,ho]
 refine eY hnd ?_
 unfold Oper.wp
 rw[gz ho hp.1 w]
 simp only[Oper.upon]
 have:=hp.2 b₀ N β a s.f w (args.toList.map a.eval) hr (gv hr _)
 rw[show (args.toList.map a.eval).toArray=args.map a.eval from G6 a7] at this
 refine this.mono fun e w' hE=>?_
 rcases hE with⟨v,r,g',ob',β',he,hR,hv,h1,h2,h3⟩|⟨ch,g',ob',β',he,hΨ,h1,h2,h3⟩
 ·subst he
  obtain⟨k1,k2⟩:=fU hr hdst hv h1 h2 h3
  exact⟨k1.defers,hn _ β' _ w' ⟨r,g',ob',hR,rfl⟩ k1 (hΦ _ _ _ _ _ _ _ hφ k2)⟩
 ·subst he
  have hk:eb b₀ β s.gen s.obj w β' g' ob' w':=h3.keep
  have ht:Tr b₀ β s w β' ⟨s.f,g',ob'⟩ w':=⟨h3.size,h3.old,hk,h3.os⟩
  exact hx' ch ⟨s.f,g',ob'⟩ β' a w' (hx _ _ _ hΨ) ⟨hr.defers,hr.size,fun i=>ae.keep hk _ (hr.f i),h1,h2,B1 hr.base h3.size⟩ (hΦ _ _ _ _ _ _ _ hφ ht)
theorem aM (hΦ:aW b₀ Φ){t:Nat} (ho:o.op=.call ⟨.value (.tmp t),args,tys⟩) (hf:s.f t=.one (.clo f caps))
  (hp:eJ P f (args.toList.map s.ev++caps.map jc) s.gen s.obj R Ψ0) (hx:∀ch g' ob',Ψ0 ch g' ob'→Ψ ch ⟨s.f,g',ob'⟩) (hk:∀r g' ob',R r g' ob'→K (St.put ⟨s.f,g',ob'⟩ o.dst r)) (hf1:f<1000000:=by decide):bi (spF P rd b₀ Φ B Ψ) o s k:=by
 refine⟨fun s'=>∃r g' ob',R r g' ob'∧s'=St.put ⟨s.f,g',ob'⟩ o.dst r,fun N β a ds w hr hφ hdst next Q hn hx'=>?_,fun _ ⟨r,g',ob',hr,e⟩=>e▸hk r g' ob' hr⟩
 have hnd:aJ o=true:=by simp[aJ,ho]
 refine eY hnd ?_
 have hv:=hr.f t
 rw[hf] at hv
 simp only[ae,aw] at hv
 obtain⟨vs,hv1,hv2,hv3⟩:=hv
 rw[qC hf1] at hv1
 have hrun:(execOp a.eval o).run P w=.ok (.enter f (args.map a.eval++vs)) w:=by
  obtain⟨fn,h1,h2,h3⟩:=hp.1
  have h2:¬fn.body=none:=by intro h;rw[h] at h2;simp at h2
  have h3:¬fn.name = "runtime.NumGoroutine":=by simpa using h3
  simp[execOp,ho,resolve,Act.eval,hv1,Deferred.ofValue,invoke,callFunc,h1,h2,h3]
 unfold Oper.wp
 rw[hrun]
 simp only[Oper.upon]
 have hc:aE b₀ β s.gen s.obj w (caps.map jc) vs.toList:=lN (by simpa using hv2) (fun i pc hi=>let ⟨u,h1,h2⟩:=hv3 i pc hi;⟨u,by simpa using h1,h2⟩)
 have:=hp.2 b₀ N β a s.f w (args.toList.map a.eval++vs.toList) hr ((gv hr _).append hc)
 rw[show (args.toList.map a.eval++vs.toList).toArray=args.map a.eval++vs from G6 a7] at this
 refine this.mono fun e w' hE=>?_
 rcases hE with⟨v,r,g',ob',β',he,hR,hv,h1,h2,h3⟩|⟨ch,g',ob',β',he,hΨ,h1,h2,h3⟩
 ·subst he
  obtain⟨k1,k2⟩:=fU hr hdst hv h1 h2 h3
  exact⟨k1.defers,hn _ β' _ w' ⟨r,g',ob',hR,rfl⟩ k1 (hΦ _ _ _ _ _ _ _ hφ k2)⟩
 ·subst he
  have hk:eb b₀ β s.gen s.obj w β' g' ob' w':=h3.keep
  have ht:Tr b₀ β s w β' ⟨s.f,g',ob'⟩ w':=⟨h3.size,h3.old,hk,h3.os⟩
  exact hx' ch ⟨s.f,g',ob'⟩ β' a w' (hx _ _ _ hΨ) ⟨hr.defers,hr.size,fun i=>ae.keep hk _ (hr.f i),h1,h2,B1 hr.base h3.size⟩ (hΦ _ _ _ _ _ _ _ hφ ht)
@[go_sem] theorem Ch {S:Sp}{dst:Option Tmp}{ty:TypeId}{ps:String}{af:Array Edge}{gd:Option (Nat×Bool)}{t u:TypeId}{ok:Bool}:opA S T ⟨dst,.typeAssert x t u ok,ty,ps,af,gd⟩ s k=bi S ⟨dst,.typeAssert x t u ok,ty,ps,af,gd⟩ s k:=j8 rfl rfl
theorem uE (hΦ:aW b₀ Φ){t t0:TypeId} (ho:o.op=.typeAssert x t0 t true) {fs:Array Field} (hu:P.underlying t=some (.struct fs)) {kd:IntKind}{n:Int}
  (hx:s.ev x=.exact (.iface t (.agg #[.int kd n]))) (hk:K (s.put o.dst (.tup [.agg [.d (.int kd n)],bv true]))):bi (spF P rd b₀ Φ B Ψ) o s k:=by
 refine⟨fun s'=>s'=s.put o.dst (.tup [.agg [.d (.int kd n)],bv true]),fun N β a ds w hr hφ hd next Q hn _=>?_,fun _ e=>e▸hk⟩
 refine eY (by simp[aJ,ho]) ?_
 have hv:=hr.ev x
 rw[hx] at hv
 simp only[ae] at hv
 have hex:(execOp a.eval o).run P w=.ok (.value (.tuple #[.agg #[.int kd n],.bool true])) w:=by
  simp[execOp,ho,hv,Instr.typeAssert,run_underlying hu]
 have hr':=hr.put hd (x:=.tup [.agg [.d (.int kd n)],bv true]) (v:=.tuple #[.agg #[.int kd n],.bool true]) (by
  simp only[ae,aE]
  refine⟨[.agg #[.int kd n],.bool true],rfl,_,_,rfl,⟨#[.int kd n],rfl,rfl,fun i c hi=>?_⟩,_,_,rfl,?_,rfl⟩
  ·match i,hi with
   |0,hi=>cases hi;exact⟨_,rfl,by simp only[aw];exact .int _ _⟩
  ·simp only[aw];exact .bool _)
 exact eK hex ⟨hr'.defers,hn _ β _ w rfl hr' (hΦ _ _ _ _ _ _ _ hφ (Tr.same (St.put_gen _ _ _) (St.put_obj _ _ _) rfl))⟩
def Qk (d:List Deferred) (b₀:Bs) (β0:Loc) (s0:St) (w0:World):St→Loc→List Deferred→World→Prop:=fun s β ds w=>ds=d∧Tr b₀ β0 s0 w0 β s w
theorem oY {d:List Deferred}{β0:Loc}{s0:St}{w0:World}:aW b₀ (Qk d b₀ β0 s0 w0):=fun _ _ _ _ _ _ _ h ht=>⟨h.1,h.2.trans ht⟩
theorem tv (hT:aQ P T) (hm:P.follows .mixedOrders=true) (hΦ:aW b₀ Φ) {N:Nat}{x y:Code} (hcm:gy x=true) (hc:codeOk N x=true) (hr:Rel b₀ N s β a w) (hφ:Φ s β ds w)
 (h:wpC (spF P rd b₀ Φ B qZ) T x (bx fun e s'=>e=.normal∧K s') s) (hy:∀s' β' a' ds' w',K s'→Rel b₀ N s' β' a' w'→Φ s' β' ds' w'→y.wpIn (fen rd) 0 P Q { a' with defers:=ds' } w'):(Code.seq x y).wpIn (fen rd) 0 P Q { a with defers:=ds } w:=by
 refine wpIn_seq (wpIn_mono (bN hT hm hΦ x hcm hc hr hφ h) (fun e a' w' hp=>?_))
 obtain⟨s',β',a0,ds',rfl,h1,h2,h3⟩:=hp
 rcases h1 with⟨rfl,h1⟩|⟨_,_,h⟩
 ·exact hy _ _ _ _ _ h1 h2 h3
 ·exact h.elim
theorem Aq (hT:aQ P T) (hm:P.follows .mixedOrders=true) (hΦ:aW b₀ Φ) {N:Nat}{x:Code} (Ψ:fP) (K:Exit→St→Prop) (hcm:gy x=true) (hc:codeOk N x=true) (hr:Rel b₀ N s β a w) (hφ:Φ s β ds w)
  (h:wpC (spF P rd b₀ Φ B Ψ) T x (bx K) s) (hq:∀e s' β' a' ds' w',(K e s'∨∃ch,e=.panic ch∧Ψ ch s')→Rel b₀ N s' β' a' w'→Φ s' β' ds' w'→Q e { a' with defers:=ds' } w'):x.wpIn (fen rd) 0 P Q { a with defers:=ds } w:=by
 refine wpIn_mono (bN hT hm hΦ x hcm hc hr hφ h) (fun e a' w' hp=>?_)
 obtain⟨s',β',a0,ds',rfl,h1,h2,h3⟩:=hp
 exact hq _ _ _ _ _ _ h1 h2 h3
theorem Ar (hT:aQ P T) (hΦ:aW b₀ Φ) {N id t:Nat}{o1 o2:Oper}{y:Code} (hn1:aJ o1=true) (g1:o1.guard=none) (g2:o2.guard=none) (hd1:∀d,o1.dst=some d→d<N) (hd2:o2.dst=none)
  (ho2:o2.op=.defer ⟨.value (.tmp t),#[],tys⟩) (hr:Rel b₀ N s β a w) (hφ:Φ s β ds w) (h:opA (spF P none b₀ Φ B qZ) T o1 s (bx fun s'=>s'.f t=.one (.clo f caps)∧K s'))
  (hy:∀s' β' a' w' vs,K s'→Rel b₀ N s' β' a' w'→Φ s' β' ds w'→aE b₀ β' s'.gen s'.obj w' (caps.map jc) vs→y.wpIn (fen none) 0 P Q { a' with defers:=⟨.fn (.func f) vs.toArray,#[]⟩::ds } w') (hf1:f<1000000:=by decide):(Code.seq (.region id #[o1,o2] false) y).wpIn (fen none) 0 P Q { a with defers:=ds } w:=by
 refine wpIn_seq (wpIn_region ?_)
 show wpOpsIn (fen none) 0 P #[o1,o2] _ [0,1] _ _
 simp only[wpOpsIn,x6,v8,l8]
 rw[if_pos (by simp[Region.wanted,g1])]
 refine kO hT hΦ hr hφ hn1 hd1 h (fun s' β' a' w' h1 h2 h3=>?_) (fun ch s' β' a' w' h=>h.elim)
 obtain⟨hc,hK⟩:=h1
 rw[if_pos (by simp[Region.wanted,g2])]
 have hv:=h2.f t
 rw[hc] at hv
 simp only[ae,aw] at hv
 obtain⟨vs,hv1,hv2,hv3⟩:=hv
 rw[qC hf1] at hv1
 refine⟨fun _ _=>trivial,?_⟩
 have hrun:((o2.semAt (fen none).round ({ a' with defers:=ds }:Act).eval).run P w')=.ok (.defer ⟨.fn (.func f) vs,#[]⟩) w':=by
  rw[show (fen none).round=none from rfl,Oper.semAt_none]
  simp[execOp,ho2,resolve,Act.eval,hv1,Deferred.ofValue]
 rw[hrun,Oper.uponIn_defer]
 simp only[hd2,Act.put]
 exact hy s' β' a' w' vs.toList hK h2 h3 (lN (by simpa using hv2) (fun i pc hi=>let ⟨u,h1,h2⟩:=hv3 i pc hi;⟨u,by simpa using h1,h2⟩))
theorem qt {tI t:TypeId} (hu:P.underlying tI=some (.interface ms)):(Op.equal tI (.iface t u) .nilIface).run P w=.ok false w:=by
 obtain⟨n,hn⟩:∃n,Op.maxDepth=n+1:=⟨_,rfl⟩
 unfold Op.equal
 rw[hn,Op.equalIn]
 simp[run_underlying hu]
theorem sL{tI t tI2:TypeId}{d:Nat} (ho:o.op=.binOp .eql tI (.tmp d) (.const .nilIface) tI2) (hu:P.underlying tI=some (.interface ms)) (h:a.tmps.getD d undef=.iface t u) :
  (execOp a.eval o).run P w=.ok (.value (.bool false)) w:=by
 have e1:binOp .eql tI (.iface t u) .nilIface=(do pure (.bool (←Op.equal tI (.iface t u) .nilIface))):=rfl
 have e2:eqGuard .eql tI (.tmp d) (.const .nilIface) (.iface t u) .nilIface=pure ():=rfl
 have e3:a.eval (.tmp d)=.iface t u:=h
 have e4:a.eval (.const .nilIface)=.nilIface:=rfl
 unfold execOp
 simp only[ho,e3,e4,e1,e2,Sem.run_bind,Sem.run_pure,Result.andThen_ok,qt hu]
theorem xH (hT:aQ P T) (hm:P.follows .mixedOrders=true) {fn fnD:Func}{N id id2 bl d e:Nat}{oR oE:Oper}{tI:TypeId}{x y:Code}
  (hf:P.funcs[f]? = some fnD) (hb:fnD.body=some (.seq (.region id #[oR] false) (.block bl (.seq (.region id2 #[oE] false) (.cond (.tmp e) x y))))) (hnn:(fnD.name == "runtime.NumGoroutine")=false)
  (hoR:oR.op=.call ⟨.builtin .recover,#[],#[]⟩) (hdR:oR.dst=some d) (gR:oR.guard=none) (hoE:oE.op=.binOp .eql tI (.tmp d) (.const .nilIface) tI) (hdE:oE.dst=some e) (gE:oE.guard=none) (hdn:d<fnD.ntmps) (hen:e<fnD.ntmps)
  (hres:fnD.results = #[]) (hcm:gy y=true) (hok:codeOk fnD.ntmps y=true) (huI:P.underlying tI=some (.interface ms)) {t:TypeId}{xs:List AV}{vs:List Value}{R:Ending→World→Prop} (hr:Rel b₀ N s β a w) (hv:aE b₀ β s.gen s.obj w xs vs) (hl:xs.length≤fnD.ntmps)
  {K:(Nat→Nat)→Obs→Prop} (hy:∀β0 s0 w0,wpC (spF P none b₀ (Cg b₀ β0 s0 w0) B qZ) T y (bx fun ex s'=>ex=.normal∧K s'.gen s'.obj) ⟨upd (upd (dC xs) d (.exact (.iface t u))) e (bv false),s.gen,s.obj⟩)
  (hR:∀g' ob' β' w',K g' ob'→Rel b₀ N ⟨s.f,g',ob'⟩ β' a w'→Tr b₀ β s w β' ⟨s.f,g',ob'⟩ w'→∃v,(results fn a.tmps).run P w'=.ok v w'∧R (.returned v) w') :
  LeavesIn (fen none) 0 P fn a.tmps R [⟨.fn (.func f) vs.toArray,#[]⟩] (.panicking [{ v:=.iface t u,recovered:=false }]) w:=by
 refine leavesIn_cons (f:=f) (args:=vs.toArray) a7 (fun h=>by cases h) ?_ (fun _ _=>trivial) ?_
 ·have h3:¬fnD.name = "runtime.NumGoroutine":=by simpa using hnn
  simp[invoke,callFunc,hf,hb,h3]
 refine callsDIn_of_wpSIn hf hb trivial fun c₀ cs hu=>?_
 apply wpSIn_seq
 apply wpSIn_region
 show wpOpsSIn (fen none) 0 P #[oR] _ [0] _ _ _
 simp only[wpOpsSIn,x6,v8]
 refine⟨fun _ _=>trivial,?_⟩
 rw[if_pos (by simp[Region.wanted,gR])]
 have hrun:∀(a:Act) (w:World),(execOp a.eval oR).run P w=.ok .recover w:=fun a w=>by simp[execOp,hoR,resolve,invoke,builtin]
 rw[hrun]
 simp only[recoverD,hu,hdR,Exit.thenS]
 refine wpSIn_of_wpIn rfl ?_
 have hr0:=lT (N:=fnD.ntmps) (fa:=s.f) hl hr hv
 have hr1:=hr0.put (dst:=some d) (fun d' h=>by cases h;exact hdn) (x:=.exact (.iface t u)) (v:=.iface t u) (by simp only[ae])
 refine wpIn_block (wpIn_seq (wpIn_region ?_))
 show wpOpsIn (fen none) 0 P #[oE] _ [0] _ _
 simp only[wpOpsIn,x6,v8]
 rw[if_pos (by simp[Region.wanted,gE])]
 have hvd:=hr1.f d
 simp only[St.put,upd,if_pos,ae] at hvd
 refine⟨fun _ _=>trivial,?_⟩
 rw[show (fen none).round=none from rfl,Oper.semAt_none]
 rw[sL hoE huI hvd,Oper.uponIn_value]
 simp only[hdE]
 have hr2:Rel b₀ fnD.ntmps ⟨upd (upd (dC xs) d (.exact (.iface t u))) e (bv false),s.gen,s.obj⟩ β _ w:=hr1.put (dst:=some e) (fun d' h=>by cases h;exact hen) (x:=bv false) (v:=.bool false) (by simp only[ae,aw,bv];exact .bool _)
 have hve:=hr2.f e
 simp only[upd,if_pos,bv,ae,aw] at hve
 refine wpIn_cond (t:=false) hve.inv_bool ?_
 rw[if_neg a8]
 have hy2:=bN (rd:=none) (B:=B) (ds:=[]) hT hm aa y hcm hok hr2 ⟨rfl,Tr.refl⟩ (hy β ⟨upd (upd (dC xs) d (.exact (.iface t u))) e (bv false),s.gen,s.obj⟩ w)
 refine wpIn_mono hy2 (fun ex a' w' hp=>?_)
 obtain⟨s',β',a0,ds',rfl,h1,h2,rfl,h4⟩:=hp
 rcases h1 with⟨rfl,h1⟩|⟨_,_,h⟩
 case inr=>exact h.elim
 have hk:eb b₀ β s.gen s.obj w β' s'.gen s'.obj w':=h4.keep
 have ht:Tr b₀ β s w β' ⟨s.f,s'.gen,s'.obj⟩ w':=⟨h4.size,h4.old,hk,h4.os⟩
 have hrA:Rel b₀ N ⟨s.f,s'.gen,s'.obj⟩ β' a w':=⟨hr.defers,hr.size,fun i=>ae.keep hk _ (hr.f i),h2.obj,h2.inj,B1 hr.base h4.size⟩
 obtain⟨v,hv1,hv2⟩:=hR _ _ _ _ h1 hrA ht
 refine⟨rfl,.panicking [{ v:=.iface t u,recovered:=true }],rfl,.tuple #[],by simp[results,hres],?_⟩
 simp only[settle,List.dropWhile_nil,LeavesIn]
 exact⟨v,hv1,hv2⟩
end
end
end
section
section
def Ql (B:Nat):PC→Prop
 |.d _=>True
 |.ptr id _ _=>id<B
def lE (B:Nat):C→Prop
 |.d _=>True
 |.osl id _ _ _ _=>id<B
 |.ptr id _ _=>id<B
 |.mp id _ _=>id<B
 |.lsl _=>True
 |.raw _=>True
 |.clo _ caps=>∀p∈caps,Ql B p
def Qm (B:Nat) (g:Nat→Nat):PC→Prop
 |.d _=>True
 |.ptr id g1 _=>id<B∨g1≤g id
def okC (B:Nat) (g:Nat→Nat):C→Prop
 |.d _=>True
 |.osl id g1 _ _ _=>id<B∨g1≤g id
 |.ptr id g1 _=>id<B∨g1≤g id
 |.mp id g1 _=>id<B∨g1≤g id
 |.lsl _=>True
 |.raw _=>True
 |.clo _ caps=>∀p∈caps,Qm B g p
variable {g:Nat→Nat}{B:Nat}{w':World}{c:C}{β' β2:Loc}{g1 g2:Nat→Nat}{ob1 ob2:Obs}{ob:Obs}{cells:List C}{xs:List AV}{R:AV→(Nat→Nat)→Obs→Prop}
theorem lE.ok (h:lE B c):okC B g c:=by
 cases c with
 |osl=>exact .inl h
 |ptr=>exact .inl h
 |mp=>exact .inl h
 |clo f caps=>
   intro p hp
   have:=h p hp
   cases p with
   |d=>trivial
   |ptr=>exact .inl this
 |d=>trivial
 |lsl=>trivial
 |raw=>trivial
def iO (S:List Nat) (g g':Nat→Nat):Nat→Nat:=fun i=>if i∈S then g' i else g i
def eQ (S:List Nat) (ob ob':Obs):Obs:=fun i=>if i∈S then ob' i else ob i
structure Ci (B:Nat) (S:List Nat) (g:Nat→Nat) (ob:Obs) (g':Nat→Nat) (ob':Obs):Prop where
 same:∀i,i<B→i∉S→g' i=g i∧ob' i=ob i
 low:∀i∈S,∀cells,ob' i=some cells→∀c∈cells,lE B c
section
variable {P:Program}{T:Nat→TI}{b₀:Bs}{β:Loc}{w:World}
theorem aw.okC {B:Nat}{g:Nat→Nat}{ob:Obs}{c:C}{v:Value} (h:aw b₀ β g ob w c v):okC B g c:=by
 cases c with
 |d=>trivial
 |osl=>exact .inr h.2.1
 |ptr=>exact .inr h.2.1
 |mp=>exact .inr h.2.1
 |lsl=>trivial
 |raw=>trivial
 |clo f caps=>
   obtain⟨vs,_,h2,h3⟩:=h
   intro p hp
   obtain⟨i,hi⟩:=B9 hp
   obtain⟨u,_,hr⟩:=h3 i p hi
   cases p with
   |d=>trivial
   |ptr=>exact .inr hr.2.1
theorem di.okC {B:Nat}{g:Nat→Nat}{R:C→Value→Prop} (hR:∀c v,R c v→Go.Am.okC B g c) {kd:TypeDesc}{cs:List C}{es:List MapEntry} (h:di R kd cs es):∀c∈cs,Go.Am.okC B g c:=by
 induction h with
 |nil=>intro c hc;cases hc
 |cons hk h1 h2 _ ih=>
   intro c hc
   simp only[x9] at hc
   rcases hc with rfl|rfl|hc
   ·trivial
   ·exact hR _ _ h2
   ·exact ih c hc
theorem gQ.okC {B:Nat}{g:Nat→Nat}{ob:Obs}{kd:Nat}{c:C}{v:Value} (h:gQ b₀ β g ob w kd c v):Go.Am.okC B g c:=by
 unfold gQ at h
 split at h
 ·exact aw.okC h
 ·obtain⟨ds,vs,rfl,_⟩:=h
  trivial
theorem cG.okC {B:Nat}{g:Nat→Nat}{ob:Obs}{e:Nat}{cells:List C}{x:Option Addr} (h:cG b₀ β g ob w e cells x):∀c∈cells,Go.Am.okC B g c:=by
 intro c hc
 cases x with
 |none=>have h:cells=[]:=h;subst h;cases hc
 |some a=>
   cases hs:a.spot with
   |none=>
     obtain⟨_,arr,el,lo,hi,_,_,_,h6⟩:=h.cells hs
     obtain⟨i,hi⟩:=B9 hc
     obtain⟨v,_,hr⟩:=h6 i c hi
     exact hr.okC
   |some kd=>
     obtain⟨_,⟨es,clock,_,h4⟩|⟨_,o,h3,_⟩⟩:=h.map hs
     ·exact di.okC (fun _ _=>gQ.okC) h4 c hc
     ·subst h3
      simp only[C5] at hc
      subst hc
      trivial
structure Conv (b₀:Bs) (B:Nat) (g:Nat→Nat) (β':Loc) (g1:Nat→Nat) (ob1:Obs) (w':World) (β2:Loc) (g2:Nat→Nat) (ob2:Obs):Prop where
 imm:∀b,Imm b₀ β' ob1 w' b→Imm b₀ β2 ob2 w' b
 live:∀id,id<B→g2 id=g1 id∧((ob2 id).isSome=true→(ob1 id).isSome=true∧β2 id=β' id)
 dead:∀id,¬id<B→ob2 id=none∧g2 id=g id
theorem Conv.rep (hc:Conv b₀ B g β' g1 ob1 w' β2 g2 ob2){v:Value} (hok:okC B g c) (h:aw b₀ β' g1 ob1 w' c v):aw b₀ β2 g2 ob2 w' c v:=by
 have hle:∀id x,id<B∨x≤g id→x≤g1 id→x≤g2 id:=fun id x hx h1=>by
  by_cases hb:id<B
  ·rw[(hc.live id hb).1];exact h1
  ·rw[(hc.dead id hb).2];exact hx.resolve_left hb
 have hlv:∀id x,g2 id=x→(ob2 id).isSome=true→g1 id=x∧(ob1 id).isSome=true∧β2 id=β' id:=fun id x hx ho=>by
  by_cases hb:id<B
  ·exact⟨by rw[←(hc.live id hb).1];exact hx,(hc.live id hb).2 ho⟩
  ·rw[(hc.dead id hb).1] at ho;cases ho
 cases c with
 |d x=>exact bD.mono h fun b hb=>⟨hc.imm b hb,rfl⟩
 | osl id x sz off len=>exact⟨h.1,hle id x hok h.2.1,fun hg ho=>by
    obtain⟨l1,l2,l3⟩:=hlv id x hg ho
    rw[l3];exact h.2.2 l1 l2⟩
 | ptr id x off=>exact⟨h.1,hle id x hok h.2.1,fun hg ho=>by
    obtain⟨l1,l2,l3⟩:=hlv id x hg ho
    rw[l3];exact h.2.2 l1 l2⟩
 | mp id x kd=>exact⟨h.1,hle id x hok h.2.1,fun hg ho=>by
    obtain⟨l1,l2,l3⟩:=hlv id x hg ho
    rw[l3];exact h.2.2 l1 l2⟩
 |lsl n=>exact h
 |raw o=>exact h.elim
 |clo f caps=>
   obtain⟨vs,h1,h2,h3⟩:=h
   refine⟨vs,h1,h2,fun i pc hp=>?_⟩
   obtain⟨u,hu,hr⟩:=h3 i pc hp
   refine⟨u,hu,?_⟩
   have hpok:=hok pc (l4 hp)
   cases pc with
   |d x=>exact bD.mono hr fun b hb=>⟨hc.imm b hb,rfl⟩
   | ptr id x off=>exact⟨hr.1,hle id x hpok hr.2.1,fun hg ho=>by
      obtain⟨l1,l2,l3⟩:=hlv id x hg ho
      rw[l3];exact hr.2.2 l1 l2⟩
theorem Conv.repM (hc:Conv b₀ B g β' g1 ob1 w' β2 g2 ob2) {kd:Nat}{v:Value} (hok:okC B g c) (h:gQ b₀ β' g1 ob1 w' kd c v):gQ b₀ β2 g2 ob2 w' kd c v:=by
 unfold gQ at h ⊢
 split
 ·rename_i hk
  rw[if_pos hk] at h
  exact hc.rep hok h
 ·rename_i hk
  rw[if_neg hk] at h
  obtain⟨ds,vs,q1,q2,q3,q4⟩:=h
  exact⟨ds,vs,q1,q2,q3,fun i x hx=>let ⟨u,hu,hr⟩:=q4 i x hx;⟨u,hu,bD.mono hr fun b hb=>⟨hc.imm b hb,rfl⟩⟩⟩
theorem di.okMono{R R':C→Value→Prop}{kd:TypeDesc}{cs:List C}{es:List MapEntry} (h:di R kd cs es) (hok:∀c∈cs,Go.Am.okC B g c) (hr:∀c v,Go.Am.okC B g c→R c v→R' c v):di R' kd cs es:=by
 induction h with
 |nil=>exact .nil
 |cons hk h1 h2 _ ih=>exact .cons hk h1 (hr _ _ (hok _ a7) h2) (ih fun c hc=>hok c (by simp[hc]))
theorem Conv.obj (hc:Conv b₀ B g β' g1 ob1 w' β2 g2 ob2) {e:Nat}{x:Option Addr} (hok:∀c∈cells,okC B g c) (h:cG b₀ β' g1 ob1 w' e cells x):cG b₀ β2 g2 ob2 w' e cells x:=by
 cases x with
 |none=>exact h
 |some a=>
   cases hs:a.spot with
   |none=>
     obtain⟨h1,arr,el,lo,hi,h2,h3,h4,h6⟩:=h.cells hs
     refine .ofCells hs ⟨h1,arr,el,lo,hi,h2,h3,h4,fun j c hj=>?_⟩
     obtain⟨v,hv,hr⟩:=h6 j c hj
     exact⟨v,hv,hc.rep (hok c (l4 hj)) hr⟩
   |some kd=>
     obtain⟨h1,⟨es,clock,h2,h4⟩|hraw⟩:=h.map hs
     ·exact .ofMap hs ⟨h1,.inl ⟨es,clock,h2,h4.okMono hok fun _ _ q1 q2=>hc.repM q1 q2⟩⟩
     ·exact .ofMap hs ⟨h1,.inr hraw⟩
theorem vF {N M:Nat}{S:List Nat}{fa:Nat→AV}{a0 a':Act}{s':St}{β':Loc} (hr0:Rel b₀ M ⟨fa,g,ob⟩ β a0 w) (hr:Rel b₀ N s' β' a' w')
  {s0:St} (h0g:s0.gen=g) (h0o:s0.obj=ob) (ht:Tr b₀ β s0 w β' s' w') (hS:∀i∈S,i<B) (hB:∀i,B≤i→ob i=none) (he:Ci B S g ob s'.gen s'.obj) :
  ∃β2:Loc,Conv b₀ B g β' s'.gen s'.obj w' β2 (iO S g s'.gen) (eQ S ob s'.obj)∧
   (∀id cells,eQ S ob s'.obj id=some cells→cG b₀ β2 (iO S g s'.gen) (eQ S ob s'.obj) w' (iO S g s'.gen id) cells (β2 id))∧
   (∀id id' a a',(eQ S ob s'.obj id).isSome=true→(eQ S ob s'.obj id').isSome=true→β2 id=some a→β2 id'=some a'→a.block=a'.block→id=id')∧
   (∀id,(eQ S ob s'.obj id).isSome=true→(s'.obj id).isSome=true∧¬B≤id∧β2 id=β' id)∧
   Tr b₀ β ⟨fa,g,ob⟩ w β2 ⟨fa,iO S g s'.gen,eQ S ob s'.obj⟩ w':=by
 subst h0g h0o
 have hlow:∀id,(s0.obj id).isSome=true→id<B:=fun id ho=>P9 fun hc=>by
  rw[hB id a6] at ho;cases ho
 have hmem:∀id,id∈S→iO S s0.gen s'.gen id=s'.gen id∧eQ S s0.obj s'.obj id=s'.obj id:=fun id h=>⟨if_pos h,if_pos h⟩
 have hnot:∀id,id∉S→iO S s0.gen s'.gen id=s0.gen id∧eQ S s0.obj s'.obj id=s0.obj id:=fun id h=>⟨if_neg h,if_neg h⟩
 have hkl:∀id,id∉S→(s0.obj id).isSome=true→s'.gen id=s0.gen id∧(s'.obj id).isSome=true∧β' id=β id:=fun id h ho=>by
  obtain⟨q1,q2⟩:=he.same id (hlow id ho) h
  have q3:(s'.obj id).isSome=true:=by rw[q2];exact ho
  exact⟨q1,q3,(ht.keep.live id q1 q3).2.1⟩
 let β2:Loc:=fun id=>if id∈S then β' id else β id
 have hβm:∀id,id∈S→β2 id=β' id:=fun id h=>if_pos h
 have hβn:∀id,id∉S→β2 id=β id:=fun id h=>if_neg h
 have hall:∀id,(eQ S s0.obj s'.obj id).isSome=true→(s'.obj id).isSome=true∧¬B≤id∧β2 id=β' id:=fun id ho=>by
  by_cases h:id∈S
  ·rw[(hmem id h).2] at ho
   exact⟨ho,by have:=hS id h;omega,hβm id h⟩
  ·rw[(hnot id h).2] at ho
   obtain⟨_,q2,q3⟩:=hkl id h ho
   exact⟨q2,by have:=hlow id ho;omega,(hβn id h).trans q3.symm⟩
 have himm:∀b,Imm b₀ β' s'.obj w' b→Imm b₀ β2 (eQ S s0.obj s'.obj) w' b:=fun b hb=>⟨hb.1,hb.2.1,fun id a ho hβ=>by
  obtain⟨q1,_,q3⟩:=hall id ho
  exact hb.2.2 id a q1 (by rw[←q3];exact hβ)⟩
 have hconv:Conv b₀ B s0.gen β' s'.gen s'.obj w' β2 (iO S s0.gen s'.gen) (eQ S s0.obj s'.obj):=by
  refine⟨himm,fun id hb=>⟨?_,fun ho=>⟨(hall id ho).1,(hall id ho).2.2⟩⟩,fun id hb=>?_⟩
  ·by_cases h:id∈S
   ·exact(hmem id h).1
   ·rw[(hnot id h).1,(he.same id hb h).1]
  ·have h:id∉S:=fun h=>hb (hS id h)
   exact⟨by rw[(hnot id h).2];exact hB id a6,(hnot id h).1⟩
 refine⟨β2,hconv,fun id cells hc=>?_,fun i1 i2 a1 a2 h1 h2 e1 e2 hb=>?_,hall,ht.size,ht.old,⟨fun b hb=>⟨himm b (ht.imm b hb).1,(ht.imm b hb).2⟩,fun id=>?_,fun id hg ho=>?_⟩,ht.os⟩
 ·by_cases h:id∈S
  ·rw[(hmem id h).1,hβm id h]
   rw[(hmem id h).2] at hc
   exact hconv.obj (fun c hcc=>(he.low id h cells hc c hcc).ok) (hr.obj id cells hc)
  ·rw[(hnot id h).1,hβn id h]
   rw[(hnot id h).2] at hc
   have ho:(s0.obj id).isSome=true:=by rw[hc];rfl
   obtain⟨q1,q2,q3⟩:=hkl id h ho
   have h1:=hr.obj id cells (by rw[(he.same id (hlow id ho) h).2];exact hc)
   rw[q1,q3] at h1
   exact hconv.obj (fun c hcc=>(hr0.obj id cells hc).okC c hcc) h1
 ·obtain⟨p1,_,p3⟩:=hall i1 h1
  obtain⟨p4,_,p6⟩:=hall i2 h2
  exact hr.inj i1 i2 a1 a2 p1 p4 (by rw[←p3];exact e1) (by rw[←p6];exact e2) hb
 ·show s0.gen id≤iO S s0.gen s'.gen id
  by_cases h:id∈S
  ·rw[(hmem id h).1];exact ht.gen id
  ·rw[(hnot id h).1];exact j9 _
 ·change iO S s0.gen s'.gen id=s0.gen id at hg
  change (eQ S s0.obj s'.obj id).isSome=true at ho
  by_cases h:id∈S
  ·rw[(hmem id h).1] at hg
   rw[(hmem id h).2] at ho
   obtain⟨q1,q2,q3⟩:=ht.keep.live id hg ho
   exact⟨q1,(hβm id h).trans q2,q3⟩
  ·rw[(hnot id h).2] at ho
   obtain⟨q1,q2,q3⟩:=hkl id h ho
   exact⟨ho,hβn id h,(ht.keep.live id q1 q2).2.2⟩
theorem eI.repL {B N:Nat}{s:St}{a:Act}{ob':Obs} (hob':∀id,(ob' id).isSome=true→(s.obj id).isSome=true∧¬B≤id) (hr:Rel b₀ N s β a w) {g':Nat→Nat}{β':Loc} (hβ:∀id,(ob' id).isSome=true→β' id=β id) :
  ∀{ts rs:List AV}{vs:List Value},eI B s ts rs→aE b₀ β s.gen s.obj w ts vs→aE b₀ β' g' ob' w rs vs
 |[],rs,vs,h,hv=>by simp only[eI] at h;subst h;simp only[aE] at hv ⊢;exact hv
 |t::ts,rs,vs,h,hv=>by
   simp only[eI] at h
   obtain⟨r,rs',rfl,h1,h2⟩:=h
   simp only[aE] at hv ⊢
   obtain⟨u,us,e,h3,h4⟩:=hv
   exact⟨u,us,e,h1.rep hob' hr h3 hβ,eI.repL hob' hr hβ h2 h4⟩
def aY (B:Nat) (S:List Nat) (g:Nat→Nat) (ob:Obs) (R:AV→(Nat→Nat)→Obs→Prop) (s:St) (avs:List AV):Prop:=Ci B S g ob s.gen s.obj∧∃rs',eI B s avs rs'∧R (pack rs') (iO S g s.gen) (eQ S ob s.obj)
def Np (T:Nat→TI) (rs:List ResultVar) (B:Nat) (S:List Nat) (g:Nat→Nat) (ob:Obs) (R:AV→(Nat→Nat)→Obs→Prop):Exit→St→Prop
 |.normal,s|.ret,s=>∃s',ag s s'∧iC T s' rs (bx fun avs=>aY B S g ob R s' avs)
 |_,_=>False
def FG (B:Nat) (S:List Nat) (g:Nat→Nat) (ob:Obs) (X:Pan):fP:=fun ch s=>Ci B S g ob s.gen s.obj∧X ch (iO S g s.gen) (eQ S ob s.obj)
theorem al (B:Nat) (S:List Nat) (hT:aQ P T) (hm:P.follows .mixedOrders=true) {f:FuncId}{fn:Func}{c:Code} (hf:P.funcs[f]? = some fn) (hb:fn.body=some c) (hn:(fn.name == "runtime.NumGoroutine")=false)
  (rs:List ResultVar) (hres:fn.results=rs.toArray) (hcm:gy c=true) (hok:codeOk fn.ntmps c=true) (hargs:xs.length≤fn.ntmps){X:Pan}
  (hS:∀i∈S,i<B) (hB:∀i,B≤i→ob i=none)
  (h:∀b₀ β0 s0 w0,wpC (spF P none b₀ (Cg b₀ β0 s0 w0) B (FG B S g ob X)) T c (bx (Np T rs B S g ob R)) ⟨dC xs,g,ob⟩):eJ P f xs g ob R X:=by
 refine⟨⟨fn,hf,by rw[hb];rfl,hn⟩,fun b₀ N β a fa w vs hr0 hv=>?_⟩
 refine jd (n:=0) (callsIn_of_wp hf hb trivial ?_)
 have hr:=lT (N:=fn.ntmps) hargs hr0 hv
 refine wpIn_mono (bN (rd:=none) (B:=B) (ds:=[]) hT hm aa c hcm hok hr ⟨rfl,Tr.refl⟩ (h b₀ β ⟨dC xs,g,ob⟩ w)) (fun e a' w' hp=>?_)
 obtain⟨s',β',a0,ds',rfl,hQ,hr',rfl,ht⟩:=hp
 rcases hQ with hQ|⟨ch,rfl,hE,hX⟩
 ·have hres':Np T rs B S g ob R .ret s'→∃v,(results fn a0.tmps).run P w'=.ok v w'∧Jv b₀ β fa g ob w R X (.returned v) w':=by
   rintro⟨s2,hvs,hR⟩
   obtain⟨β2,hr2,ht2⟩:=hvs b₀ fn.ntmps β' a0 w' hr'
   have hta:=ht.trans ht2
   obtain⟨v,avs,h1,⟨hE,rs',hfz,hR'⟩,h3,vs',rfl,h4⟩:=dt hT hr2 hres hR
   obtain⟨β3,hcv,k1,k2,k3,k4⟩:=vF (a0:=a) (fa:=fa) hr0 hr2 rfl rfl hta hS hB hE
   refine⟨ko vs',h1,.inl ⟨ko vs',_,_,_,β3,rfl,hR',vB (hfz.repL (fun id ho=>⟨(k3 id ho).1,(k3 id ho).2.1⟩) hr2 (fun id ho=>(k3 id ho).2.2) h4),k1,k2,k4⟩⟩
  cases e with
  |normal=>exact⟨rfl,hres' hQ⟩
  |ret=>exact⟨rfl,hres' hQ⟩
  |exit id=>exact hQ.elim
  |goto l=>exact hQ.elim
  |panic ch=>exact hQ.elim
  |outgrown=>exact hQ.elim
 ·obtain⟨β3,hcv,k1,k2,k3,k4⟩:=vF (a0:=a) (fa:=fa) hr0 hr' rfl rfl ht hS hB hE
  exact⟨rfl,.inr ⟨ch,_,_,β3,rfl,hX,k1,k2,k4⟩⟩
theorem eJ.toR {f:FuncId} (h:eJ P f xs g ob R (fun _ _ _=>False)):jb P f xs g ob R:=
 ⟨h.1,fun b₀ N β a fa w vs h1 h2=>(h.2 b₀ N β a fa w vs h1 h2).mono fun _ _ q=>q.elim id fun⟨_,_,_,_,_,h,_⟩=>h.elim⟩
theorem Cj {t:Nat}{g g':Nat→Nat} (h:g' t=g t):iO [t] g g'=g:=by
 funext i
 simp only[iO,C5]
 split
 ·rename_i e;subst e;exact h
 ·rfl
theorem Ck {t:Nat}{ob ob':Obs}:eQ [t] ob ob'=upd ob t (ob' t):=by
 funext i
 simp only[eQ,C5,upd]
 split
 ·rename_i e;subst e;rfl
 ·rfl
theorem Cl {g g':Nat→Nat}:iO [] g g'=g:=by funext i;simp[iO]
theorem Cm {ob ob':Obs}:eQ [] ob ob'=ob:=by funext i;simp[eQ]
theorem cg {α:Type}{P:Nat→Prop}{s:St}{id g sz n:Nat} (hp:P id) (hg:s.gen id=g) (l:List α) (enc:α→List D) (ho:s.obj id=some cells) (hc:cells=l.flatMap (fun a=>(enc a).map .d)) (hsz:∀a∈l,(enc a).length=sz) (hn:l.length=n) :
  dU P s (.osl id g sz 0 n) (.sl (l.map enc)):=by
 have hfl:(l.map enc).flatten.map C.d=cells:=by rw[hc,List.flatMap_def,List.map_flatten,Q7];rfl
 have hlen:(l.map enc).flatten.length=n*sz:=by
  rw[←hn];clear ho hc hn hfl
  induction l with
  |nil=>simp
  |cons a l ih=>simp only[l5,D3,j4,j6,hsz a a7,ih (fun b hb=>hsz b (by simp[hb])),E7];omega
 refine .osl hp hg ho (by rw[←hfl,j5,hlen];omega) (by simpa using hn) (fun e he=>by obtain⟨a,ha,rfl⟩:=G8.1 he;exact hsz a ha) (fun j=>.d ((l.map enc).flatten.getD j default)) (fun j x hx=>?_) (fun j x hx=>?_)
 ·rw[C2,←hfl,x7,hx]
  simp[List.getD,hx]
 ·simp only[List.getD,hx,x8]
  exact .d x
end
end
end
end Go.Am

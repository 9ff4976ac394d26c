/- A part of the proof; no conditions. -/
import Derived.Test.YtgiigidgdhplfaaGreatDoorPart6
import Derived.Lib.ItoaLen
set_option linter.unusedSimpArgs false
set_option linter.unusedVariables false
set_option maxHeartbeats 64000000
set_option maxRecDepth 100000
namespace Go.Proofs.YtgiigidgdhplfaaGreatDoor
section
attribute [local congr] Go.Am.ite_cc
open Go Go.Am Go.Asm
section
def KD:Option Str→Src.R (Nat×Str×Nat)
 |some t=>.ok (4,t,0)
 |none=>.err 3
theorem mz (c:UInt8) (r:Str):Src.firstT (c::r)=if digit c=true then(if 4294967295<fZ ((c::r).takeWhile digit) then .err 2 else .ok (2,(c::r).takeWhile digit,fZ ((c::r).takeWhile digit)))
  else if c=39 then ql (c::r) else if letter c=true then qm ((c::r).takeWhile iy)
  else KD (Src.Nk.find? fun t=>t.isPrefixOf (c::r)):=by
 unfold Src.firstT qm
 by_cases hd:digit c=true
 ·simp only[hd,A5]
 simp only[hd,A4]
 by_cases h39:c=39
 ·simp only[h39,A5]
  match r with
  |[]=>rfl
  |[_]=>rfl
  |x::y::r=>rfl
 ·simp only[h39,A4]
  rfl
theorem Cf {α:Type}{p:α→Bool}{l:List α}{k:Nat}{x:α} (h:∀y∈l.take k,p y=false) (hx:l[k]? = some x) (hp:p x=true):l.find? p=some x:=by
 have hk:=(l4.1 hx).1
 rw[←H0 k l,List.find?_append,List.find?_eq_none.2 (fun y hy=>by rw[h y hy];simp)]
 have:l.drop k=x::l.drop (k+1):=by
  rw[A0 hk]
  congr 1
  exact D5 ((w9 hk).symm.trans hx)
 rw[this,List.find?_cons,hp]
 rfl
theorem si {k v:Nat}{t:Str}:oh (.ok (k,t,v))=.tup [.agg [.d (.int .i64 (k:Nat)),.d (.str t),.d (.int .u32 (v:Nat)),.d (.int .i64 ((0:Nat):Int))],iv .i64 0]:=rfl
theorem sj {e:Nat}:oh (.err e)=.tup [.agg [.d (.int .i64 ((0:Nat):Int)),.d (.str []),.d (.int .u32 ((0:Nat):Int)),.d (.int .i64 ((0:Nat):Int))],iv .i64 (e:Nat)]:=rfl
variable {o:bE}
theorem xv (c:UInt8) (s:Str) (h0:s[0]? = some c) (hs:s.length≤1000000) (hd:digit c=true) {x:Src.R (Nat×Str×Nat)} (hx:(if 4294967295<fZ (s.takeWhile digit) then .err 2 else .ok (2,s.takeWhile digit,fZ (s.takeWhile digit)))=x) :
  bi Tryz.prog 3 o 87 [sv s] (· = oh x):=by
 refine hdG Tryz.func87 rfl [.cell 2 122,.tmp 3] fun b₀ β0 s0 w0 g=>?_
 have hD:=kB c
 rw[hd] at hD
 have hl:=A9 (Q1 digit (l:=s)).length_le hs
 have hN:=zc (s.takeWhile digit) a6 List.all_takeWhile
 rw[hx] at hN
 have hfr:=qQ kB s a6
 generalize s.takeWhile digit=u at hN hfr hx
 simp only[go_sem,h0]
 refine iE rfl YN ?_
 rintro _ rfl
 simp only[go_sem]
 refine iE rfl (by simp only[go_sem];exact hfr) ?_
 rintro _ rfl
 simp only[go_sem]
 refine iE rfl (by simp only[go_sem];exact hN) ?_
 rintro _ rfl
 cases x with
 |ok y=>
   exact WH
 |err e=>
   exact W6
theorem zg (s:Str) (h0:s[0]? = some 39):bi Tryz.prog 3 o 87 [sv s] (· = oh (ql s)):=by
 refine hdG Tryz.func87 rfl [.cell 2 122,.tmp 3] fun b₀ β0 s0 w0 g=>?_
 have hD:=kB 39
 rw[show digit 39=false from rfl] at hD
 have hi:(((39:UInt8).toNat:Nat):Int)=39:=rfl
 have hB:=Fs s
 generalize ql s=x at hB ⊢
 simp only[go_sem,h0]
 refine iE rfl YN ?_
 rintro _ rfl
 simp only[go_sem,hi]
 refine iE rfl (by simp only[go_sem];exact hB) ?_
 rintro _ rfl
 cases x with
 |ok y=>
   exact WH
 |err e=>
   exact W6
theorem zi (ho:gK o) (c:UInt8) (s:Str) (h0:s[0]? = some c) (hs:s.length≤1000000) (hd:digit c=false) (h39:c≠39) (hl:letter c=true) :
  bi Tryz.prog 3 o 87 [sv s] (· = oh (qm (s.takeWhile iy))):=by
 refine hdG Tryz.func87 rfl [.cell 2 122,.tmp 3] fun b₀ β0 s0 w0 g=>?_
 have hD:=kB c
 rw[hd] at hD
 have hL:=mW c
 rw[hl] at hL
 have hi:¬((c.toNat:Nat):Int)=39:=ni (d:=39) h39
 have hfr:=qQ um s a6
 have hN:=Ft ho (s.takeWhile iy)
 generalize s.takeWhile iy=u at hN hfr ⊢
 generalize qm u=x at hN ⊢
 simp only[go_sem,h0]
 refine iE rfl YN ?_
 rintro _ rfl
 simp only[go_sem,hi]
 refine iE rfl Zc ?_
 rintro _ rfl
 simp only[go_sem]
 refine iE rfl (by simp only[go_sem];exact hfr) ?_
 rintro _ rfl
 simp only[go_sem]
 refine cp rfl (by simp only[go_sem];exact hN) ?_
 rintro _ rfl
 cases x with
 |ok y=>
   exact WH
 |err e=>
   exact W6
theorem zj (ho:gK o) (c:UInt8) (s:Str) (h0:s[0]? = some c) (hd:digit c=false) (h39:c≠39) (hl:letter c=false) {x:Option Str} (hx:Src.Nk.find? (fun t=>t.isPrefixOf s)=x) :
  bi Tryz.prog 3 o 87 [sv s] (· = oh (KD x)):=by
 refine hdG Tryz.func87 rfl [.cell 2 122,.tmp 3] fun b₀ β0 s0 w0 g=>?_
 have hD:=kB c
 rw[hd] at hD
 have hL:=mW c
 rw[hl] at hL
 have hi:¬((c.toNat:Nat):Int)=39:=ni (d:=39) h39
 have hsl:Src.Nk.length=24:=rfl
 simp only[go_sem,h0]
 refine iE rfl YN ?_
 rintro _ rfl
 simp only[go_sem,hi]
 refine iE rfl Zc ?_
 rintro _ rfl
 simp only[go_sem]
 refine ai (fun n st=>∃k:Nat,n+k=24∧st.f 0=sv s∧st.f 31=iv .i64 k∧st.f 2=.one (.ptr 2 (nxC 123 (g 2)) 0)∧st.gen 2=nxC 123 (g 2)∧st.obj 2=some [.d (.int .i64 0),.d (.str []),.d (.int .u32 0),.d (.int .i64 0)]∧∀t∈Src.Nk.take k,t.isPrefixOf s=false) 24 ?_ ?_
 ·refine⟨0,rfl,?_⟩
  simp only[go_sem]
  simp
 rintro n f g' ob ⟨k,hk,q0,q31,q2,g2,o2,hno⟩
 simp only at q0 q31 q2 g2 o2
 have hw:=ah (k:=k) a6
 by_cases hlt:k<24
 ·have hlti:(k:Int)<24:=a6
  obtain⟨t,ht⟩:=getq (l:=Src.Nk) (k:=k) a6
  have hP:=qj s t
  have hrow:∀w:World,ny 3 o w→∀(j:Nat) (x:D),([D.str t]:List D)[j]? = some x→w.cell? ⟨1,k*(Tt 9).size+j,none⟩=some (dV x):=fun w hw j x hx=>by
   match j,hx with
   |0,hx=>cases hx;rw[show k*(Tt 9).size+0=k from by show k*1+0=k;omega];exact(ho w hw).2 k t ht
  simp only[go_sem,q0,q31,hlti]
  refine kn ay (fun s β ds w h=>h.1.2) aB (n:=24) (e:=9) rfl rfl a8 (kd:=.i64) (i:=k) (by simp only[go_sem,q31]) hlt (cs:=[.str t]) (fun j x hx=>by match j,hx with|0,hx=>cases hx;rfl) hrow ?_
  simp only[go_sem,q0]
  refine iE rfl YM ?_
  rintro _ rfl
  cases hp:t.isPrefixOf s
  ·simp only[go_sem,q31,hw]
   refine ae (n-1) a6 ⟨k+1,a6,?_⟩
   simp only[go_sem,q0,q2,g2,o2]
   rw[A2,ht]
   intro x hx
   rcases D1.1 hx with hx|hx
   ·exact hno x hx
   ·simp at hx;rw[hx];exact hp
  ·rw[Cf (p:=fun t=>t.isPrefixOf s) hno ht hp] at hx
   subst hx
   simp only[go_sem,q31,hlti]
   refine kn ay (fun s β ds w h=>h.1.2) aB (n:=24) (e:=9) rfl rfl a8 (kd:=.i64) (i:=k) (by simp only[go_sem,q31]) hlt (cs:=[.str t]) (fun j x hx=>by match j,hx with|0,hx=>cases hx;rfl) hrow ?_
   simp only[go_sem,q2,g2,o2]
   exact⟨_,cT (k:=4) (v:=0) (e:=0),rfl⟩
 ·obtain rfl:k=24:=a6
  rw[l5 (by rw[hsl];decide)] at hno
  rw[List.find?_eq_none.2 (fun y hy=>by rw[hno y hy];simp)] at hx
  subst hx
  simp only[go_sem,q0,q31,q2,g2,o2,show ¬((24:Nat):Int)<24 by decide]
  exact Wq
theorem IX (ho:gK o) (c:UInt8) (r:Str) (hs:(c::r).length≤1000000):bi Tryz.prog 3 o 87 [sv (c::r)] (· = oh (Src.firstT (c::r))):=by
 rw[mz]
 cases hd:digit c with
 |true=>rw[if_pos rfl];exact xv c (c::r) rfl hs hd rfl
 |false=>
   rw[if_neg a7]
   by_cases h39:c=39
   ·rw[if_pos h39];exact zg (c::r) (by rw[h39];rfl)
   ·rw[if_neg h39]
    cases hl:letter c with
    |true=>rw[if_pos rfl];exact zi ho c (c::r) rfl hs hd h39 hl
    |false=>rw[if_neg a7];exact zj ho c (c::r) rfl hd h39 hl rfl
end
def dF (l:List Src.Tok):D:=.sl (l.map jJ)
def MQ (r:List Src.Tok×Nat×Nat):AV:=.tup [.one (.d (dF r.1)),iv .i64 (r.2.1:Nat),iv .i64 (r.2.2:Nat)]
def sk (l:List Src.Tok):List C:=l.flatMap fun t=>(jJ t).map .d
theorem ut:∀l:List Src.Tok,(sk l).length=l.length*4
 |[]=>rfl
 |t::l=>by have ih:=ut l;unfold sk at ih ⊢;rw[B4,j4,ih];simp only[jJ,j5,j6,j7];omega
theorem zk (l:List Src.Tok) (t:Src.Tok):sk (l++[t])=sk l++(jJ t).map .d:=by unfold sk;rw[J8];simp
def tt (l:List Src.Tok):Src.R (List Src.Tok)×Nat→Src.R (List Src.Tok)×Nat
 |(.ok l',p)=>(.ok (l++l'),p)
 |(.err e,p)=>(.err e,p)
theorem Fu (x:Src.R (List Src.Tok)×Nat):tt [] x=x:=by obtain⟨a,b⟩:=x;cases a <;> rfl
theorem Cg (l:List Src.Tok) (t:Src.Tok) (x:Src.R (List Src.Tok)×Nat):tt (l++[t]) x=tt l (tt [t] x):=by obtain⟨a,b⟩:=x;cases a <;> simp[tt]
theorem mA {p:UInt8→Bool}:∀s:Str,s.drop (s.takeWhile p).length=s.dropWhile p
 |[]=>rfl
 |c::s=>by
   by_cases h:p c=true
   ·rw[J9,if_pos h,List.dropWhile_cons,if_pos h,j6,List.drop_succ_cons,mA s]
   ·rw[J9,if_neg h,List.dropWhile_cons,if_neg h];rfl
theorem zl {s t:Str}{k v:Nat} (h:Src.firstT s=.ok (k,t,v)):0<t.length∧t.length≤s.length∧v<4294967296∧k≤4:=by
 have hall:(Src.Nk.all fun t=>decide (0<t.length))=true:=a8
 cases s with
 |nil=>unfold Src.firstT at h;cases h
 |cons c r=>
   rw[mz] at h
   have hsub:∀p:UInt8→Bool,((c::r).takeWhile p).length≤(c::r).length:=fun p=>(Q1 p).length_le
   split at h
   ·rename_i hd
    split at h
    ·cases h
    ·cases h
     refine⟨?_,hsub _,a6,a8⟩
     rw[J9,if_pos hd];simp
   ·split at h
    ·unfold ql at h
     split at h
     ·rename_i x y r' hx
      split at h
      ·cases h
       rename_i hh
       rw[hx]
       refine⟨a7,a7,?_,a8⟩
       omega
      ·cases h
     ·cases h
    ·split at h
     ·rename_i hl
      unfold qm at h
      split at h
      ·cases h
      ·have h0:0<((c::r).takeWhile iy).length:=by
        rw[J9,if_pos (by unfold iy;rw[hl];rfl)];simp
       split at h <;> cases h <;> exact⟨h0,hsub _,a8,a8⟩
     ·cases hf:Src.Nk.find? fun t=>t.isPrefixOf (c::r) with
      |some t'=>
        rw[hf] at h
        cases h
        have hm:=T2 hf
        have hp:=List.find?_some hf
        refine⟨N2 (x7.1 hall _ hm),?_,a8,a8⟩
        exact(N7.1 hp).length_le
      |none=>rw[hf] at h;cases h
theorem zm {s:Str}{e:Nat} (hs:s≠[]) (h:Src.firstT s=.err e):e=2∨e=3:=by
 cases s with
 |nil=>exact absurd rfl hs
 |cons c r=>
   rw[mz] at h
   split at h
   ·split at h
    ·cases h;exact .inl rfl
    ·cases h
   ·split at h
    ·unfold ql at h
     split at h
     ·split at h
      ·cases h
      ·cases h;exact .inr rfl
     ·cases h;exact .inr rfl
    ·split at h
     ·unfold qm at h
      split at h
      ·cases h;exact .inl rfl
      ·split at h <;> cases h
     ·cases hf:Src.Nk.find? fun t=>t.isPrefixOf (c::r) with
      |some t'=>rw[hf] at h;cases h
      |none=>rw[hf] at h;cases h;exact .inr rfl
theorem KE {o:bE} (ho:gK o) (s:Str):bi Tryz.prog 3 o 55 [sv s] (· = MQ (Src.pG s)):=by
 refine hdG Tryz.func55 rfl [.tmp 2,.tmp 3,.tmp 4] fun b₀ β0 s0 w0 g=>?_
 unfold Src.pG
 by_cases hbig:20000<s.length
 ·have hbi:(20000:Int)<(s.length:Int):=a6
  rw[if_pos hbig]
  simp only[go_sem,hbi]
  exact WN
 have hbi:¬(20000:Int)<(s.length:Int):=a6
 rw[if_neg hbig]
 simp only[go_sem,hbi]
 refine ai (fun n st=>∃(k:Nat) (m:Nat) (l:List Src.Tok),n+k=s.length∧(s.drop k).length<m∧Src.qn (s.length+1) 0 s=tt l (Src.qn m k (s.drop k))∧l.length≤k∧st.f 0=sv s∧st.f 6=iv .i64 k∧
  ((l=[]∧st.f 5=.one (.d .nsl))∨(l≠[]∧st.f 5=.one (.osl 61 (st.gen 61) 4 0 l.length)∧st.obj 61=some (sk l)))) s.length ?_ ?_
 ·refine⟨0,s.length+1,[],a6,a7,by rw[Fu];rfl,a7,?_⟩
  simp only[go_sem]
  exact .inl trivial
 rintro n f g' ob ⟨k,m,l,hk,hm,hL,hlk,q0,q6,q5⟩
 simp only at q0 q6 q5
 have hk0:(0:Int)≤(k:Int):=a6
 by_cases hlt:k<s.length
 case neg=>
  have hlti:¬(k:Int)<(s.length:Int):=a6
  rw[D8 a6] at hL
  obtain⟨m',rfl⟩:∃m',m=m'+1:=⟨m-1,a6⟩
  rw[hL]
  have hend:∀k,tt l (Src.qn (m'+1) k [])=(.ok l,0):=fun k=>by unfold Src.qn tt;simp
  rw[hend]
  rcases q5 with⟨rfl,q5⟩|⟨hne,q5,o5⟩
  ·simp only[go_sem,q0,q6,q5,hlti]
   exact WN
  ·simp only[go_sem,q0,q6,q5,hlti]
   exact⟨_,⟨_,⟨_,_,rfl,IR (cL rfl l jJ (by simp[upd,o5,sk]) rfl (fun t _ x hx=>by simp only[jJ,x9,A1,E7] at hx;rcases hx with rfl|rfl|rfl|rfl <;> rfl) (fun _ _=>rfl) rfl),_,_,rfl,eN _,_,_,rfl,eN _,rfl⟩,rfl⟩,rfl⟩
 have hlti:(k:Int)<(s.length:Int):=a6
 obtain⟨c,hc⟩:=getq hlt
 have hdrop:s.drop k=c::s.drop (k+1):=by
  rw[A0 hlt]
  congr 1
  exact D5 ((w9 hlt).symm.trans hc)
 obtain⟨m',rfl⟩:∃m',m=m'+1:=⟨m-1,a6⟩
 have hml:(s.drop (k+1)).length<m':=by rw[hdrop] at hm;simp only[j6] at hm;omega
 have hw:=ah (k:=k) a6
 have hgo:∀k r,Src.qn (m'+1) k (c::r)=if c=32∨c=9∨c=10 then Src.qn m' (k+1) r
   else if c=47∧r.head? = some 47 then Src.qn m' (k+((c::r).takeWhile (· != 10)).length) ((c::r).dropWhile (· != 10))
   else match Src.firstT (c::r) with
    |.err e=>(.err e,k)
    |.ok (kd,t,v)=>tt [⟨kd,t,v,k⟩] (Src.qn m' (k+t.length) ((c::r).drop t.length)):=by
  intro k r
  conv=>lhs;unfold Src.qn
  split
  ·rfl
  ·split
   ·rfl
   ·split
    ·rename_i h;rw[h]
    ·rename_i kd t v h
     rw[h]
     simp only
     rcases Src.qn m' (k+t.length) ((c::r).drop t.length) with⟨a,b⟩
     cases a <;> rfl
 rw[hdrop,hgo] at hL
 by_cases hbl:c=32∨c=9∨c=10
 ·rw[if_pos hbl] at hL
  have hstep:(((c.toNat:Nat):Int)=32)∨(¬((c.toNat:Nat):Int)=32∧((c.toNat:Nat):Int)=9)∨(¬((c.toNat:Nat):Int)=32∧¬((c.toNat:Nat):Int)=9∧((c.toNat:Nat):Int)=10):=by
   rcases hbl with rfl|rfl|rfl
   ·exact .inl rfl
   ·exact .inr (.inl ⟨a8,rfl⟩)
   ·exact .inr (.inr ⟨a8,a8,rfl⟩)
  rcases hstep with h1|⟨h1,h2⟩|⟨h1,h2,h3⟩
  case' inl=>simp only[go_sem,q0,q6,hlti,hc,hk0,h1,hw]
  case' inr.inl=>simp only[go_sem,q0,q6,hlti,hc,hk0,h1,h2,hw]
  case' inr.inr=>simp only[go_sem,q0,q6,hlti,hc,hk0,h1,h2,h3,hw]
  all_goals
   refine ae (n-1) a6 ⟨k+1,m',l,a6,hml,hL,a6,?_⟩
   simp only[go_sem,q0]
   exact q5
 rw[if_neg hbl] at hL
 have b1:¬((c.toNat:Nat):Int)=32:=ni (d:=32) fun h=>hbl (.inl h)
 have b2:¬((c.toNat:Nat):Int)=9:=ni (d:=9) fun h=>hbl (.inr (.inl h))
 have b3:¬((c.toNat:Nat):Int)=10:=ni (d:=10) fun h=>hbl (.inr (.inr h))
 have hsl:List.drop k (List.take s.length s)=s.drop k:=by rw[G9]
 have hdl:(s.drop k).length≤1000000:=by rw[D7];omega
 simp only[go_sem,q0,q6,hlti,hc,hk0,b1,b2,b3,hsl]
 refine⟨a6,a6,?_⟩
 refine iE rfl (by simp only[go_sem];exact qj (s.drop k) [47,47]) ?_
 rintro _ rfl
 cases hp:([47,47]:Str).isPrefixOf (s.drop k)
 case true=>
  obtain⟨r2,hr2⟩:=N7.1 hp
  have hcm:c=47∧(s.drop (k+1)).head? = some 47:=by
   rw[hdrop] at hr2
   simp only[z8,y1,O8] at hr2
   exact⟨hr2.1.symm,by rw[←hr2.2];rfl⟩
  rw[if_pos hcm,←hdrop,←mA,Q0] at hL
  have htl:((s.drop k).takeWhile (· != 10)).length≤(s.drop k).length:=(Q1 _).length_le
  have ht1:1≤((s.drop k).takeWhile (· != 10)).length:=by
   rw[hdrop,J9,if_pos (by rw[hcm.1];rfl)];simp
  have hdl2:(s.drop k).length=s.length-k:=D7
  generalize hT:((s.drop k).takeWhile (· != 10)).length=T at hL htl ht1
  have hw2:IntKind.i64.wrap ((k:Int)+(T:Int))=((k+T:Nat):Int):=by rw[wrap_i64] <;> omega
  simp only[go_sem,q0,q6,hk0,hsl]
  refine⟨a6,a6,?_⟩
  refine iE rfl (by simp only[go_sem];exact qQ IQ (s.drop k) a6) ?_
  rintro _ rfl
  simp only[go_sem,hT,hw2,q6]
  refine ae (n-T) a6 ⟨k+T,m',l,a6,by rw[D7];rw[D7] at hml;omega,hL,a6,?_⟩
  simp only[go_sem,q0]
  exact q5
 have hncm:¬(c=47∧(s.drop (k+1)).head? = some 47):=by
  rintro⟨h1,h2⟩
  rw[hdrop,h1] at hp
  cases hr:s.drop (k+1) with
  |nil=>rw[hr] at h2;cases h2
  |cons x y=>
    rw[hr] at h2 hp
    simp only[List.head?_cons,s6] at h2
    rw[h2] at hp
    simp[List.isPrefixOf] at hp
 rw[if_neg hncm] at hL
 have hF:=IX ho c (s.drop (k+1)) (by rw[←hdrop];exact hdl)
 rw[←hdrop] at hF hL
 simp only[go_sem,q0,q6,hk0,hsl]
 refine⟨a6,a6,?_⟩
 refine cp rfl Za ?_
 rintro _ rfl
 cases hf:Src.firstT (s.drop k) with
 |err e=>
   have he:e=2∨e=3:=zm (by rw[hdrop];simp) hf
   have hei:¬(e:Int)=0:=a6
   rw[hf] at hL
   simp only[tt] at hL
   rw[hL]
   unfold oh lp jJ
   simp only[go_sem,l7,v8,hei,q6]
   exact WN
 |ok x=>
   obtain⟨kd,t,v⟩:=x
   obtain⟨t1,t2,t3,t4⟩:=zl hf
   rw[hf] at hL
   simp only at hL
   rw[Q0,←Cg] at hL
   have hdl2:(s.drop k).length=s.length-k:=D7
   have hw2:IntKind.i64.wrap ((k:Int)+(t.length:Int))=((k+t.length:Nat):Int):=by rw[wrap_i64] <;> omega
   unfold oh lp jJ
   rcases q5 with⟨rfl,q5⟩|⟨hne,q5,o5⟩
   ·simp only[go_sem,l7,v8,q6,q5,aC,hw2]
    refine⟨⟨a8,a8⟩,?_⟩
    refine ae (n-t.length) a6 ⟨k+t.length,m',[⟨kd,t,v,k⟩],a6,by rw[D7];rw[D7] at hml;omega,hL,by simp;omega,?_⟩
    simp only[go_sem,q0]
    first|exact .inr rfl|exact .inr ⟨by simp,rfl⟩|exact .inr ⟨by simp,rfl,rfl⟩
   ·have htc:=ut l
    simp only[go_sem,l7,v8,q6,q5,o5,aC,hw2]
    refine⟨a6,⟨a8,a6⟩,?_⟩
    refine ae (n-t.length) a6 ⟨k+t.length,m',l++[⟨kd,t,v,k⟩],a6,by rw[D7];rw[D7] at hml;omega,hL,by simp;omega,?_⟩
    simp only[go_sem,q0]
    refine .inr ⟨a7,a7,?_⟩
    rw[zk,l5 a6]
    rfl
theorem MG {s:St} (xs:List D):jc s (.agg (xs.map .d)) (.agg ((xs.map eQ).map .d)):=by
 refine⟨xs.map eQ,a7,fun i c hc=>?_,rfl⟩
 rw[w8] at hc ⊢
 cases hq:xs[i]? with
 |none=>rw[hq] at hc;cases hc
 |some x=>rw[hq] at hc;cases hc;exact⟨_,rfl,.d x⟩
end
section
open Go Go.Am Go.Asm Go.RowKit Go.Sort Go.Lib Go.Proofs
theorem vJ (u:Nat) (hu64:u<18446744073709551616) (w:World) (htab:Lib.TabIs Tryz.prog w "internal/strconv.uint64pow10" .u64 Lib.pow10Tab) :
  Calls Tryz.prog 79 #[.int .u64 u,.int .i64 10] w fun e w'=>e=.returned (.string ⟨(Lib.decDigits u).toArray⟩)∧∃k os,w'=grow (w.drewN k) os:=by
 have mixed:Tryz.prog.follows .mixedOrders=true:=c8
 have t3:Tryz.prog.underlying 3=some (.int .i64):=bA.t3;have a3:∀w,(isAgg 3).run Tryz.prog w=.ok false w:=bA.a3;have z3:∀w,(Go.sizeOf 3).run Tryz.prog w=.ok 1 w:=bA.z3
 have v3:∀w,(zeroValue 3).run Tryz.prog w=.ok (.int .i64 0) w:=bA.v3
 have t9:Tryz.prog.underlying 9=some (.string):=bA.t9;have a9:∀w,(isAgg 9).run Tryz.prog w=.ok false w:=bA.a9;have z9:∀w,(Go.sizeOf 9).run Tryz.prog w=.ok 1 w:=bA.z9
 have v9:∀w,(zeroValue 9).run Tryz.prog w=.ok (.string ⟨#[]⟩) w:=bA.v9
 have t4:Tryz.prog.underlying 4=some (.bool):=bA.t4;have a4:∀w,(isAgg 4).run Tryz.prog w=.ok false w:=bA.a4;have z4:∀w,(Go.sizeOf 4).run Tryz.prog w=.ok 1 w:=bA.z4
 have v4:∀w,(zeroValue 4).run Tryz.prog w=.ok (.bool false) w:=bA.v4
 have t171:Tryz.prog.underlying 201=some (.array 24 5):=bA.t171;have a171:∀w,(isAgg 201).run Tryz.prog w=.ok true w:=bA.a171;have z171:∀w,(Go.sizeOf 201).run Tryz.prog w=.ok 24 w:=bA.z171
 have v171:∀w,(zeroValue 201).run Tryz.prog w=.ok (.agg Lib.zeros24) w:=bA.v171
 have t0:Tryz.prog.underlying 0=some (.tuple #[]):=bA.t0;have a0:∀w,(isAgg 0).run Tryz.prog w=.ok false w:=bA.a0;have z0:∀w,(Go.sizeOf 0).run Tryz.prog w=.ok 1 w:=bA.z0
 have v0:∀w,(zeroValue 0).run Tryz.prog w=.ok (.tuple #[]) w:=bA.v0
 have t53:Tryz.prog.underlying 111=some (.int .u64):=bA.t53;have a53:∀w,(isAgg 111).run Tryz.prog w=.ok false w:=bA.a53;have z53:∀w,(Go.sizeOf 111).run Tryz.prog w=.ok 1 w:=bA.z53
 have v53:∀w,(zeroValue 111).run Tryz.prog w=.ok (.int .u64 0) w:=bA.v53
 have t37:Tryz.prog.underlying 52=some (.slice 5):=bA.t37;have a37:∀w,(isAgg 52).run Tryz.prog w=.ok false w:=bA.a37;have z37:∀w,(Go.sizeOf 52).run Tryz.prog w=.ok 1 w:=bA.z37
 have v37:∀w,(zeroValue 52).run Tryz.prog w=.ok (.slice none 0 0) w:=bA.v37
 have t5:Tryz.prog.underlying 5=some (.int .u8):=bA.t5;have a5:∀w,(isAgg 5).run Tryz.prog w=.ok false w:=bA.a5;have z5:∀w,(Go.sizeOf 5).run Tryz.prog w=.ok 1 w:=bA.z5
 have v5:∀w,(zeroValue 5).run Tryz.prog w=.ok (.int .u8 0) w:=bA.v5
 by_cases hs:u<100
 ·have hsm:∀w,Calls Tryz.prog 104 #[.int .i64 u] w fun e w'=>e=.returned (.string ⟨(Lib.decDigits u).toArray⟩)∧w'=w:=fun w=>Any.internal_strconv_small { bA with } u hs w
  go_enter Tryz.func79,Tryz.ntmps79
  go_wp2_with (refine(hsm _).mono ?_;rintro e w' ⟨rfl,rfl⟩)
  go_ret
  exact⟨rfl,0,#[],by simp[World.drewN_zero]⟩
 ·have hu1:1≤u:=a6
  have hnd20:Lib.nDigits u≤20:=by have:=Lib.numDigits_eq u hu1 hu64;split at this <;> omega
  have hb3:Lib.nDigits u≤23:=a6
  have hal:Tryz.prog.arrayLen 201=24:=by simp[Program.arrayLen,t171]
  have hsl1:∀W,(Instr.sliceAt 201 (.pointer (some ⟨w.heap.size,0,none⟩)) none (some (.int .i64 (Lib.nDigits u:Int))) none).run Tryz.prog W=.ok (.slice (some ⟨w.heap.size,0,none⟩) (Lib.nDigits u) 24) W:=fun W=>by
   rw[run_sliceAt_array_h W 201 ⟨w.heap.size,0,none⟩ (by simp[Program.arrayLen,Program.elem,t171]) .i64 (Lib.nDigits u:Int) a6 (by rw[hal];omega)]
   go_simp
  have hH0:Holds (fun(b:UInt8)=>Value.int .u8 (b.toNat:Int)) (w.alloc (.cells Lib.zeros24 201)) w.heap.size 0 (Array.replicate (Lib.nDigits u) 0):=fun j hj=>by
   have hj':j<Lib.nDigits u:=by simpa using hj
   refine⟨?_,World.frozen?_alloc_new _ _ _ _⟩
   rw[World.cell?_alloc_new,Lib.zeros24_at _ a6,K7 _ j hj]
   simp
  have hfmt:Calls Tryz.prog 106 #[.slice (some ⟨w.heap.size,0,none⟩) (Lib.nDigits u) 24,.int .u64 u] (w.alloc (.cells Lib.zeros24 201)) fun e w'=>
    e=.returned (.tuple #[])∧∃(n v':Nat) (dk:Array UInt8),w'=(putRow (fun(b:UInt8)=>Value.int .u8 (b.toNat:Int)) (w.alloc (.cells Lib.zeros24 201)) w.heap.size 0 dk).drewN n∧FmtInv (Lib.nDigits u) u 0 v' dk:=by
   have h:=Any.internal_strconv_formatBase10 { bA with } w.heap.size 0 24 u (Array.replicate (Lib.nDigits u) 0) (w.alloc (.cells Lib.zeros24 201)) hH0 (by rw[N8];exact Lib.lt_pow_nDigits u) hu64 (by rw[N8];omega)
   rw[N8] at h
   exact h
  have hnum:∀w,Lib.TabIs Tryz.prog w "internal/strconv.uint64pow10" .u64 Lib.pow10Tab→Calls Tryz.prog 105 #[.int .u64 u] w fun e w'=>e=.returned (.int .i64 (Lib.nDigits u))∧w'=w:=fun w h=>Any.internal_strconv_numDigits { bA with } u hu1 hu64 w h
  have HH0:=Lib.hid hH0
  clear hH0 hal
  go_enter Tryz.func79,Tryz.ntmps79
  go_wp2_with (first
   | (refine(hnum _ (Lib.tabIs_alloc htab _)).mono ?_;rintro e w' ⟨rfl,rfl⟩))
  refine hfmt.mono ?_
  rintro e w' ⟨rfl,k,v',dk,rfl,hF⟩
  have hcv:(convert 52 9 (.slice (some ⟨w.heap.size,0,none⟩) (Lib.nDigits u) 24)).run Tryz.prog ((putRow (fun(b:UInt8)=>Value.int .u8 (b.toNat:Int)) (w.alloc (.cells Lib.zeros24 201)) w.heap.size 0 dk).drewN k)=.ok (.string ⟨(Lib.decDigits u).toArray⟩) ((putRow (fun(b:UInt8)=>Value.int .u8 (b.toNat:Int)) (w.alloc (.cells Lib.zeros24 201)) w.heap.size 0 dk).drewN k):=by
   have h:=run_convert_bytes_back (P:=Tryz.prog) ((putRow (fun(b:UInt8)=>Value.int .u8 (b.toNat:Int)) (w.alloc (.cells Lib.zeros24 201)) w.heap.size 0 dk).drewN k) 52 9 5 ⟨w.heap.size,0,none⟩ 24 (Lib.decDigits u) t37 t5 t9 (fun j hj=>by
    rw[Lib.row_is_numeral hF j hj,Lib.add_plain,World.cell?_drewN]
    exact cell?_putRow (fun(b:UInt8)=>Value.int .u8 (b.toNat:Int)) _ w.heap.size 0 _ dk HH0.out (by rw[hF.size,N8]) j (by rw[hF.size];rw[Lib.decDigits_length] at hj;exact hj))
   rw[Lib.decDigits_length] at h
   exact h
  go_wp2
  go_ret
  obtain⟨os',_,e⟩:=putRow_grow_new (fun(b:UInt8)=>Value.int .u8 (b.toNat:Int)) w #[.cells Lib.zeros24 201] w.heap.size 0 dk (l0 _)
  rw[←alloc_eq_grow] at e
  exact⟨rfl,k,os',by rw[e];rfl⟩
end
section
attribute [local congr] Go.Am.ite_cc
open Go Go.Am Go.Asm Go.RowKit Go.Sort Go.Lib Go.Proofs
section
def oI (o:bE):Prop:=∀w:World,ny 3 o w→Lib.TabIs Tryz.prog w "internal/strconv.uint64pow10" .u64 Lib.pow10Tab
theorem grown (w:World) (k:Nat) (os:Array Obj):w.heap.size≤(grow (w.drewN k) os).heap.size∧(∀b,b<w.heap.size→(grow (w.drewN k) os).heap[b]? = w.heap[b]?)∧((grow (w.drewN k) os).os=w.os∧(grow (w.drewN k) os).output=w.output):=
 ⟨by rw[size_grow];exact Q2 _ _,fun b hb=>heap_grow_old (w.drewN k) os hb,rfl,rfl⟩
variable {o:bE}
theorem Fj (ho:oI o) (n:Nat) (hn:n≤9223372036854775807):bi Tryz.prog 3 o 50 [iv .i64 n] (· = sv (Lib.decDigits n)):=by
 refine gv ⟨_,Tryz.func50,rfl,c9⟩ rfl rfl fun w hG=>?_
 have h:Calls Tryz.prog 50 #[.int .i64 n] w _:=Any.strconv_Itoa bA n a6 a6 w (ho w hG)
 rw[Lib.itoa_nonneg] at h
 exact h.mono fun e w' ⟨h1,k,os,h2⟩=>by
  subst h2
  exact⟨h1,grown w k os⟩
theorem sg (ho:oI o) (n:Nat) (hn:n<18446744073709551616):bi Tryz.prog 3 o 79 [iv .u64 n,iv .i64 10] (· = sv (Lib.decDigits n)):=by
 refine gv ⟨_,Tryz.func79,rfl,c9⟩ rfl rfl fun w hG=>?_
 exact(vJ n hn w (ho w hG)).mono fun e w' ⟨h1,k,os,h2⟩=>by
  subst h2
  exact⟨h1,grown w k os⟩
theorem vK (ho:oI o) (n:Nat) (hn:n<18446744073709551616):bi Tryz.prog 3 o 52 [iv .u64 n,iv .i64 10] (· = sv (Lib.decDigits n)):=by
 refine hdG Tryz.func52 rfl [.tmp 4] fun b₀ β0 s0 w0 g=>?_
 simp only[go_sem]
 refine cp rfl (by simp only[go_sem];exact sg ho n hn) ?_
 rintro _ rfl
 exact VU
theorem MJ (ho:oI o) (n:Nat) (hn:n<4294967296):bi Tryz.prog 3 o 25 [iv .u32 n] (· = sv (Lib.decDigits n)):=by
 refine hdG Tryz.func25 rfl [.tmp 2] fun b₀ β0 s0 w0 g=>?_
 have hw:IntKind.u64.wrap (n:Int)=(n:Int):=by rw[IntKind.wrap_u64];omega
 simp only[go_sem,hw]
 refine cp rfl (by simp only[go_sem];exact vK ho n a6) ?_
 rintro _ rfl
 exact VU
end
end
end Go.Proofs.YtgiigidgdhplfaaGreatDoor
namespace Go.Am
section
attribute [local congr] Go.Am.ite_cc
section
variable {s:St}{K:St→Prop}{o:Oper}{t:TypeId}{m ix x:Operand}{t1 t2:TypeId}{id id2 g g2 sz n:Nat}{cells cells2:List C}{k:Box K}
section
variable {P:Program}{T:Nat→TI}{b₀:Bs}{β:Loc}{w:World}{rd:Option Nat}{Φ:St→Loc→List Deferred→World→Prop}{B0:Nat}{Ψ:fj}{Ψ0:Pan}
theorem ta (w:World) (dT sT ty elem:TypeId) (b o n dCap sCap sz:Nat) (a:Addr) (cs:List Value) (arr:Array Value) (el:TypeId) (lo hi:Nat)
  (hu:P.underlying dT=some (.slice elem)) (hs:(P.info? elem).map (·.size)=some sz) (hn:n*sz=cs.length)
  (hsrc:∀j v,cs[j]? = some v→w.cell? (a.add j)=some v) (hblk:w.heap[b]? = some (.cells arr el (lo,hi))) (hf:hi≤lo∨arr.size≤lo) (hfit:o+cs.length≤arr.size) (h1:∀v∈cs,v.oneCell'=true) :
  (Builtin.copy_ #[dT,sT] ty #[.slice (some ⟨b,o,none⟩) n dCap,.slice (some a) n sCap]).run P w=.ok (goInt n) (w.setCells b o cs):=by
 have hl:=run_loadCells_list (P:=P) w a cs hsrc
 have hst:=run_storeCells_cells (P:=P) b o cs 0 w (fun j hj=>by simp[World.cell?,hblk];omega) (fun j hj=>kr hblk hf a6) h1
 cases hq:P.info? elem with
 |none=>simp[hq] at hs
 |some i=>
   have hi:i.size=sz:=by simpa[hq] using hs
   simp[Builtin.copy_,run_underlying hu,Builtin.lenOf,Builtin.firstCells,sizeOf,typeInfo,hq,hi,hn,hl,hst]
theorem Br (hT:aN P T){B:Nat}{x y:Operand} (ho:o.op=.call ⟨.builtin .copy,#[x,y],#[t1,t2]⟩) (hsl:cr T t1=true)
  (hx:s.ev x=.one (.osl id g sz 0 n)) (hg:s.gen id=g) (hy:s.ev y=.one (.osl id2 g2 sz 0 n)) (hg2:s.gen id2=g2) (hsz:(aL T t1).size=sz) (ho1:s.obj id=some cells) (hl1:cells.length=n*sz) (ho2:s.obj id2=some cells2) (hl2:cells2.length=n*sz) (hn0:0<n)
  (hk:K (St.put { s with obj:=upd s.obj id (some cells2)} o.dst (iv .i64 n))):aR (spB P B) o s k:=by
 refine⟨fun s'=>s'=St.put { s with obj:=upd s.obj id (some cells2)} o.dst (iv .i64 n),fun b₀ N β a w hr hd next Q hn=>?_,fun _ e=>e▸hk⟩
 obtain⟨e,he1,he2,hu,hte⟩:=dw hT hsl
 rw[he2] at hsz
 have hv:=hr.ev x
 rw[hx] at hv
 simp only[ag,aq] at hv
 have hv:=hv.2.2 hg (by simp[ho1])
 have hvy:=hr.ev y
 rw[hy] at hvy
 simp only[ag,aq] at hvy
 have hvy:=hvy.2.2 hg2 (by simp[ho2])
 have hsp2:=hvy.spot
 rcases mK (off:=0) (n:=n*sz) hr hsp2 ho2 a6 with⟨ad2,hβ2,vs,hca,hl,hcell⟩|⟨hβ2,_⟩
 case inr=>rw[hβ2] at hvy;have:=hvy.1;omega
 cases hβ:β id with
 |none=>rw[hβ] at hv;have:=hv.1;omega
 |some ad=>
   rw[hβ] at hv
   obtain⟨hsp,⟨cap,hv,hc,_⟩|⟨h0,_⟩⟩:=hv
   case inr=>omega
   rw[hβ2] at hvy
   obtain⟨_,⟨cap2,hvy,hc2,_⟩|⟨h0,_⟩⟩:=hvy
   case inr=>omega
   have hob:=hr.obj id cells ho1
   rw[hβ] at hob
   obtain⟨hB,arr,el,lo,hi,hblk,hfr,hlen,hcells⟩:=hob.cells hsp
   have hsz2:(P.info? e).map (·.size)=some sz:=by
    obtain⟨i,q1,q2,_⟩:=hte.info
    rw[q1,x8,q2,hsz]
   have hrun:=ta (P:=P) w t1 t2 o.type e ad.block (ad.off+0) n cap cap2 sz ⟨ad2.block,ad2.off+0,none⟩ vs arr el lo hi hu hsz2 hl.symm (fun j v hj=>by rw[cM];exact hcell j v hj) hblk hfr.1 a6 hca.one
   have hex:(execOp a.eval o).run P w=.ok (.value (goInt n)) (w.setCells ad.block (ad.off+0) vs):=by
    simp only[I6] at hrun hv hvy ⊢
    simp[execOp,ho,resolve,invoke,hv,hvy,builtin,hrun]
   obtain⟨arr',f1,f2,f3⟩:=eq ad.block vs (ad.off+0) w arr el (lo,hi) hblk
   have hsome:∀i,(upd s.obj id (some cells2) i).isSome=(s.obj i).isSome:=fun i=>by
    simp only[upd]
    split
    ·rename_i he;rw[he,ho1];rfl
    ·rfl
   have hkeep:dU b₀ β s.gen s.obj w β s.gen (upd s.obj id (some cells2)) (w.setCells ad.block (ad.off+0) vs):=by
    refine⟨fun b hb=>?_,fun _=>l0 _,fun i _ hi'=>?_⟩
    ·have hne:b≠ad.block:=fun he=>hb.2.2 id ad (by simp[ho1]) hβ he.symm
     exact WR
    ·exact VT
   have hca2:aX b₀ β s w cells2 vs:=by
    rw[C1,l5 a6] at hca
    exact hca
   have hrel:Rel b₀ N { s with obj:=upd s.obj id (some cells2)} β a (w.setCells ad.block (ad.off+0) vs):=by
    refine⟨hr.defers,hr.size,fun i=>ag.keep hkeep _ (hr.f i),fun i cells' hc'=>?_,fun i i' a1 a2 h1 h2=>hr.inj i i' a1 a2 YW YU,by rw[setCells_size];exact hr.base⟩
    by_cases hid:i=id
    ·subst hid
     simp only[upd,A5,s6] at hc'
     subst hc'
     rw[hβ]
     refine .ofCells hsp ⟨hB,arr',el,lo,hi,f1,by rw[f2];exact hfr,by rw[f2];omega,fun j c hc=>?_⟩
     have hjl:j<cells2.length:=(l4.1 hc).1
     rw[f3,if_pos a6,show ad.off+j-(ad.off+0)=j by omega]
     obtain⟨u,hu1,hu2⟩:=hca2.2 j c hc
     exact⟨u,hu1,hu2.keep hkeep⟩
    ·have hc'':s.obj i=some cells':=by
      have h:=hc'
      simp only[upd,if_neg hid] at h
      exact h
     refine(hr.obj i cells' hc'').keep hkeep (fun a' ha'=>heap_setCells_other _ _ _ _ _ (fun hb=>hid (hr.inj i id a' ad (by simp[hc'']) (by simp[ho1]) ha' hβ hb)))
   have htr:Tr b₀ β s w β { s with obj:=upd s.obj id (some cells2)} (w.setCells ad.block (ad.off+0) vs):=
    ⟨by rw[setCells_size];exact l0 _,fun b hb=>heap_setCells_other _ _ _ _ _ a6,hkeep,jK _ _ _ _⟩
   refine cY hex (hn _ β _ _ rfl (hrel.put hd ?_) (htr.trans (Tr.same (St.put_gen _ _ _) (St.put_obj _ _ _) rfl)))
   simp only[ag,aq]
   exact .int _ _
theorem yw (hΦ:aQ b₀ Φ) (hT:aN P T){x y:Operand} (ho:o.op=.call ⟨.builtin .copy,#[x,y],#[t1,t2]⟩) (hsl:cr T t1=true)
  (hx:s.ev x=.one (.osl id g sz 0 n)) (hg:s.gen id=g) (hy:s.ev y=.one (.osl id2 g2 sz 0 n)) (hg2:s.gen id2=g2) (hsz:(aL T t1).size=sz) (ho1:s.obj id=some cells) (hl1:cells.length=n*sz) (ho2:s.obj id2=some cells2) (hl2:cells2.length=n*sz) (hn0:0<n)
  (hk:K (St.put { s with obj:=upd s.obj id (some cells2)} o.dst (iv .i64 n))):aR (spF P rd b₀ Φ B0 Ψ) o s k:=
 we hΦ YS (Br (B:=0) (k:=k) hT ho hsl hx hg hy hg2 hsz ho1 hl1 ho2 hl2 hn0 hk)
theorem yx (hΦ:aQ b₀ Φ){t:Nat}{args:Array Operand}{tys:Array TypeId} (ho:o.op=.call ⟨.value (.tmp t),args,tys⟩) {f:FuncId} (hf:s.f t=.one (.d (.fn f))) {R:AV→(Nat→Nat)→Obs→Prop}
  (hp:cB P f (args.toList.map s.ev) s.gen s.obj R Ψ0) (hx:∀ch g' ob',Ψ0 ch g' ob'→Ψ ch ⟨s.f,g',ob'⟩) (hk:∀r g' ob',R r g' ob'→K (St.put ⟨s.f,g',ob'⟩ o.dst r)):aR (spF P rd b₀ Φ B0 Ψ) o s k:=by
 refine⟨fun s'=>∃r g' ob',R r g' ob'∧s'=St.put ⟨s.f,g',ob'⟩ o.dst r,fun N β a ds w hr hφ hdst next Q hn hx'=>?_,fun _ ⟨r,g',ob',hr,e⟩=>e▸hk r g' ob' hr⟩
 have hnd:aE o=true:=by simp[aE,ho]
 refine eS hnd ?_
 have hv:=hr.f t
 rw[hf] at hv
 simp only[ag,aq] at hv
 have hv:a.tmps.getD t undef=.func (.func f) #[] #[]:=by generalize a.tmps.getD t undef=v at hv;cases hv;rfl
 have hrun:(execOp a.eval o).run P w=.ok (.enter f (args.map a.eval)) w:=by
  exact VE
 unfold Oper.wp
 rw[hrun]
 exact Wz
theorem wl (hT:aN P T){B:Nat} (ho:o.op=.insert t m ix x) (h:dr T t s (s.ev m) (s.ev ix) (s.ev x) (bx fun s'=>K (s'.put o.dst uv))):aR (spB P B) o s k:=by
 refine⟨K,fun b₀ N β a w hr hd next Q hn=>?_,fun _ h=>h⟩
 obtain⟨s',w',h1,h2,h3,h4⟩:=ks hT hr h (hr.ev m) (hr.ev ix) (hr.ev x)
 exact rC (w':=w') (by simp[execOp,ho,h2]) (hn _ _ _ _ h1 (h3.put hd bR) (h4.trans (Tr.same (St.put_gen _ _ _) (St.put_obj _ _ _) rfl)))
theorem vb (hΦ:aQ b₀ Φ) (hT:aN P T) (ho:o.op=.insert t m ix x) (h:dr T t s (s.ev m) (s.ev ix) (s.ev x) (bx fun s'=>K (s'.put o.dst uv))):aR (spF P rd b₀ Φ B0 Ψ) o s k:=
 we hΦ YS (wl (B:=0) (k:=k) hT ho h)
end
section
variable {S:Sp}{T:Nat→TI}
@[go_sem] theorem Lq {dst:Option Tmp}{ty:TypeId}{ps:String}{af:Array Edge}{gd:Option (Nat×Bool)}:opA S T ⟨dst,.insert t m ix x,ty,ps,af,gd⟩ s k=aR S ⟨dst,.insert t m ix x,ty,ps,af,gd⟩ s k:=j8 rfl rfl
end
end
end
end Go.Am
namespace Go.Proofs.YtgiigidgdhplfaaGreatDoor
section
open Go Go.Am Go.Asm Go.RowKit Go.Sort Go.Lib Go.Proofs
section
theorem wR {o:bE} (ho:oI o) (u:Nat) (h1:1≤u) (h2:u<18446744073709551616):bi Tryz.prog 3 o 105 [iv .u64 u] (· = iv .i64 (Lib.nDigits u)):=by
 refine gv ⟨_,Tryz.func105,rfl,c9⟩ rfl rfl fun w hG=>?_
 exact(Any.internal_strconv_numDigits (P:=Tryz.prog) (ρ:=lq) { bA with } u h1 h2 w (ho w hG)).mono fun e w' ⟨h1,h2⟩=>by
  subst h2
  exact⟨h1,l0 _,fun _ _=>rfl,rfl,rfl⟩
theorem Iq {o:bE} (i:Nat) (h:i<100):bi Tryz.prog 3 o 104 [iv .i64 i] (· = sv (Lib.decDigits i)):=by
 refine gv ⟨_,Tryz.func104,rfl,c9⟩ rfl rfl fun w hG=>?_
 exact(Any.internal_strconv_small (P:=Tryz.prog) (ρ:=lq) { bA with } i h w).mono fun e w' ⟨h1,h2⟩=>by
  subst h2
  exact⟨h1,l0 _,fun _ _=>rfl,rfl,rfl⟩
def iq (bs:List UInt8):List C:=bs.map fun b=>C.d (iz b)
theorem fu (bs:List UInt8):(iq bs).length=bs.length:=by simp[iq]
theorem kx (a b:List UInt8):iq (a++b)=iq a++iq b:=by simp[iq]
section
variable {α:Type} [Inhabited α]
theorem oA (enc:α→Value) (w:World) (blk off:Nat) (d:Array α) {b:Nat} (hb:b≠blk):(putRow enc w blk off d).heap[b]? = w.heap[b]?:=by
 simp only[putRow,mapBlock,L5]
 rw[if_neg (z7 hb)]
theorem pw (enc:α→Value) (w:World) (blk off:Nat) (d:Array α) {arr:Array Value}{el:TypeId}{fr:Nat×Nat} (h:w.heap[blk]? = some (.cells arr el fr)):(putRow enc w blk off d).heap[blk]? = some (.cells (putCells enc off d arr) el fr):=by
 simp only[putRow,mapBlock,L5,A5,h]
 rfl
end
theorem Rq (u j:Nat):Lib.dg u j≠10:=by
 intro e
 have:=congrArg UInt8.toNat e
 unfold Lib.dg at this
 rw[L2,show (10:UInt8).toNat=10 from rfl] at this
 omega
theorem Me (u:Nat) (hu64:u<18446744073709551616) {A gA n:Nat}{bs:List UInt8}{g:Nat→Nat}{ob:Obs} (hg:g A=gA) (ho:ob A=some (iq bs)) (hn:n≤bs.length) (hn0:0<n) (hu:u<10^n) (hsm:n<1000) :
  cB Tryz.prog 106 [.one (.osl A gA 1 0 n),iv .u64 u] g ob (fun _ g' ob'=>g'=g∧∃bs',bs'.length=bs.length∧(∀x∈bs'.take n,x≠10)∧ob'=upd ob A (some (iq bs'))) (fun _ _ _=>False):=by
 refine⟨⟨_,Tryz.func106,rfl,c9⟩,fun b₀ N β a fa w vs hr hv=>?_⟩
 simp only[aA,ag,aq] at hv
 obtain⟨v,us,rfl,⟨_,hle,hat⟩,v2,us2,rfl,hv2,rfl⟩:=hv
 have hv2:=hv2.inv_int
 subst hv2
 have hat:=hat hg Yd
 cases hβ:β A with
 |none=>rw[hβ] at hat;have:=hat.1;omega
 |some ad=>
   rw[hβ] at hat
   obtain⟨hsp,⟨cap,rfl,hcap,_⟩|⟨h0,_⟩⟩:=hat
   case inr=>omega
   have hob:=hr.obj A _ ho
   rw[hβ] at hob
   obtain⟨hB,arr,el,lo,hi,hblk,hfr,hlen,hcells⟩:=hob.cells hsp
   have hbl:=fu bs
   have hcell:∀j,j<bs.length→arr[ad.off+j]? = some (.int .u8 ((bs[j]!).toNat:Int)):=fun j hj=>by
    have hc:(iq bs)[j]? = some (.d (iz bs[j]!)):=by
     rw[iq,w8,w9 hj,x8,K7 bs j hj]
    obtain⟨x,hx1,hx2⟩:=hcells j _ hc
    simp only[aq,iz] at hx2
    rw[hx1,hx2.inv_int]
   have hd:(bs.take n).toArray.size=n:=by simp;omega
   have hH:Holds (fun(b:UInt8)=>Value.int .u8 (b.toNat:Int)) w ad.block ad.off (bs.take n).toArray:=fun j hj=>by
    rw[hd] at hj
    refine⟨?_,?_⟩
    ·rw[cI hblk,hcell j a6]
     congr 3
     rw[K7 (bs.take n).toArray j XQ,K7 bs j a6]
     simp
    ·exact kr hblk hfr.1 a6
   have hcall:Calls Tryz.prog 106 #[.slice (some ⟨ad.block,ad.off,none⟩) (bs.take n).toArray.size cap,.int .u64 u] w _:=Any.internal_strconv_formatBase10 (P:=Tryz.prog) (ρ:=lq) { bA with } ad.block ad.off cap u (bs.take n).toArray w hH (by rw[hd];exact hu) hu64 (by rw[hd];omega)
   rw[hd] at hcall
   refine hcall.mono ?_
   rintro e w' ⟨rfl,k,v',dk,rfl,hF⟩
   have hdk:dk.size=n:=hF.size
   obtain⟨bs2,hbs2⟩:∃bs2,dk.toList++bs.drop n=bs2:=⟨_,rfl⟩
   have hbl2:bs2.length=bs.length:=by rw[←hbs2];simp[hdk];omega
   have hno:∀x∈bs2.take n,x≠10:=by
    rw[←hbs2,List.take_left' (by simp[hdk])]
    intro x hx
    obtain⟨i,hi⟩:=List.mem_iff_getElem?.1 hx
    rw[F0] at hi
    obtain⟨h1,h2⟩:=A7.1 hi
    have h3:=hF.done i (K9 _) a6
    rw[K7 dk i h1,h2] at h3
    rw[h3]
    exact Rq _ _
   obtain⟨w',hw'⟩:∃w',(putRow (fun b:UInt8=>Value.int .u8 (b.toNat:Int)) w ad.block ad.off dk).drewN k=w':=⟨_,rfl⟩
   have hoth:∀b,b≠ad.block→w'.heap[b]? = w.heap[b]?:=fun b hb=>by rw[←hw'];exact oA _ _ _ _ _ hb
   have hsame:w'.heap[ad.block]? = some (.cells (putCells (fun b:UInt8=>Value.int .u8 (b.toNat:Int)) ad.off dk arr) el (lo,hi)):=by rw[←hw'];exact pw _ _ _ _ _ hblk
   have hsize:w'.heap.size=w.heap.size:=by rw[←hw'];exact size_putRow _ _ _ _ _
   have hos:w'.os=w.os∧w'.output=w.output:=by rw[←hw'];exact⟨rfl,rfl⟩
   rw[hw']
   have hsome:∀i,(upd ob A (some (iq bs2)) i).isSome=(ob i).isSome:=fun i=>by
    exact W2
   have hpsz:(putCells (fun b:UInt8=>Value.int .u8 (b.toNat:Int)) ad.off dk arr).size=arr.size:=by simp[putCells]
   have hkeep:dU b₀ β g ob w β g (upd ob A (some (iq bs2))) w':=by
    refine⟨fun b hb=>?_,fun _=>l0 _,fun i _ hi'=>?_⟩
    ·have hne:b≠ad.block:=fun he=>hb.2.2 A ad Yd hβ he.symm
     refine⟨⟨by rw[hsize];exact hb.1,hb.2.1,fun i a' hi'=>hb.2.2 i a' (by rw[←hsome i];exact hi')⟩,hoth _ hne⟩
    ·rw[hsome i] at hi'
     refine⟨hi',rfl,fun a' ha' arr1 el1 fr1 h1=>?_⟩
     by_cases hb:a'.block=ad.block
     ·rw[hb] at h1 ⊢
      rw[hsame] at h1
      cases h1
      exact⟨arr,el,(lo,hi),hblk,by rw[hpsz];exact l0 _⟩
     ·rw[hoth _ hb] at h1
      exact Xv
   refine .inl ⟨.tuple #[],.tup [],g,upd ob A (some (iq bs2)),β,rfl,⟨rfl,_,hbl2,hno,rfl⟩,?_,fun i cells' hc'=>?_,fun i i' a1 a2 h1 h2=>hr.inj i i' a1 a2 YW YU,by rw[hsize];exact l0 _,fun b hb=>hoth _ a6,hkeep,hos⟩
   ·simp only[ag,aA];exact⟨[],rfl,rfl⟩
   by_cases hid:i=A
   ·subst hid
    simp only[upd,A5,s6] at hc'
    subst hc'
    rw[hβ]
    refine .ofCells hsp ⟨hB,_,el,lo,hi,hsame,by rw[hpsz];exact hfr,by rw[hpsz,fu,hbl2,←hbl];exact hlen,fun j c hc=>?_⟩
    have hjl:j<bs2.length:=by
     have:=(l4.1 hc).1
     rwa [fu] at this
    have hc2:c=.d (iz bs2[j]!):=by
     rw[iq,w8,w9 hjl,x8] at hc
     cases hc
     rw[K7 bs2 j hjl]
    subst hc2
    refine⟨.int .u8 ((bs2[j]!).toNat:Int),?_,by simp only[aq,iz];exact .int _ _⟩
    have haj:=hcell j a6
    have hal:ad.off+j<arr.size:=(A7.1 haj).1
    rw[y2 hal] at haj
    simp only[putCells,Array.getElem?_mapIdx,y2 hal,x8]
    congr 1
    split
    ·rename_i hin
     rw[show ad.off+j-ad.off=j by omega,K7 dk j a6,K7 bs2 j hjl]
     congr 2
     subst hbs2
     rw[List.getElem_append_left XQ]
     simp
    ·rename_i hin
     have hjn:n≤j:=a6
     rw[D5 haj,K7 bs j a6,K7 bs2 j hjl]
     congr 2
     subst hbs2
     rw[List.getElem_append_right XQ]
     simp only[M4,hdk,List.getElem_drop]
     have e:n+(j-n)=j:=a6
     simp only[e]
   ·have hc'':ob i=some cells':=by
     have h:=hc'
     simp only[upd,if_neg hid] at h
     exact h
    exact(hr.obj i cells' hc'').keep hkeep (fun a' ha'=>hoth _ (fun hb=>hid (hr.inj i A a' ad (by simp[hc'']) Yd ha' hβ hb)))
end
end
section
attribute [local congr] Go.Am.ite_cc
open Go Go.Am Go.Asm Go.RowKit Go.Sort Go.Lib Go.Proofs
section
variable {o:bE}{g:Nat→Nat}{ob:Obs}{A gA n:Nat}{bs:List UInt8}
theorem cB.toG {P:Program}{gb:Nat}{f:FuncId}{xs:List AV}{R:AV→(Nat→Nat)→Obs→Prop} (h:cB P f xs g ob R (fun _ _ _=>False)):ru P gb o f xs g ob R:=
 ⟨h.1,fun b₀ N β a fa w vs _ _ h1 h2=>(h.2 b₀ N β a fa w vs h1 h2).mono fun _ _ q=>q.elim id (fun⟨_,_,_,_,_,h,_⟩=>h.elim)⟩
def App (B A m:Nat) (bs:List UInt8) (g:Nat→Nat) (ob:Obs) (r:AV) (g':Nat→Nat) (ob':Obs):Prop:=
 ∃ds:List UInt8,(∀x∈ds,x≠10)∧(bs++ds).length≤m∧r=.one (.osl A (g' A) 1 0 (bs++ds).length)∧ob' A=some (iq (bs++ds))∧∀i,i<B→i≠A→g' i=g i∧ob' i=ob i
theorem EG:∀u:Nat,∀x∈Lib.decDigits u,x≠10:=by
 have hs:∀v:Nat,v<10→(UInt8.ofNat (48+v))≠10:=a8
 intro u
 induction u using Nat.strongRecOn with
 |_ u ih=>
   intro x hx
   unfold Lib.decDigits at hx
   split at hx
   ·rename_i h
    rw[C7.1 hx]
    exact hs u h
   ·rcases D1.1 hx with hx|hx
    ·exact ih (u/10) a6 x hx
    ·rw[C7.1 hx]
     exact hs _ (P4 _ a8)
theorem ud (bs:List UInt8) (n:Nat):(iq bs).take n=iq (bs.take n):=by simp[iq,List.map_take]
theorem vD (B:Nat) (ho:oI o) (u:Nat) (hu:u<18446744073709551616) (hA:A<B) (hg:g A=gA) (hob:ob A=some (iq bs)) (hbn:bs.length=n) (hn:n≤10000000) :
  ru Tryz.prog 3 o 72 [.one (.osl A gA 1 0 n),iv .u64 u,iv .i64 10] g ob (App B A (n+20) bs g ob):=by
 refine lZ B 3 o aB mixed Tryz.func72 rfl c9 [.tmp 6] rfl c8 c8 (by simp[Tryz.ntmps72]) fun b₀ β0 s0 w0=>?_
 subst hbn;subst hg
 have n1:∀k,(A=B+k)=False:=fun k=>by simp;omega
 have n2:∀k,(B+k=A)=False:=fun k=>by simp;omega
 have hl:=fu bs
 by_cases hs:u<100
 ·have hw:IntKind.i64.wrap (u:Int)=(u:Int):=by rw[wrap_i64] <;> omega
  have hsi:(u:Int)<100:=a6
  have hd:=Lib.decDigits_length u
  have hd2:=Lib.nDigits_le20 u hu
  simp only[go_sem,hw,hsi]
  refine il cn (fun s β ds w h=>h.1.2) rfl (by simp only[go_sem,hw];exact Iq u hs) XX ?_
  rintro _ rfl
  simp only[go_sem,n1,n2,hob,hl]
  refine⟨a6,⟨a8,a6⟩,?_⟩
  refine⟨_,ab.refl _,?_⟩
  simp only[go_sem,n1,n2]
  refine⟨Lib.decDigits u,EG u,by rw[j4];omega,?_,?_,fun i _ hne=>by simp[upd,hne]⟩
  ·simp only[pack,upd,A5,j4]
  ·rw[upd,if_pos rfl,l5 a6,kx]
   rfl
 ·have hsi:¬(u:Int)<100:=a6
  have h1:1≤u:=a6
  have hd20:=Lib.nDigits_le20 u hu
  have hd0:=Lib.nDigits_pos u
  simp only[go_sem,hsi,n1,n2]
  refine il cn (fun s β ds w h=>h.1.2) rfl (by simp only[go_sem];exact wR ho u h1 hu) XX ?_
  rintro _ rfl
  simp only[go_sem,n1,n2]
  refine⟨a6,?_⟩
  refine ji cn (fun s β ds w h=>h.1) rfl (by simp only[go_sem];exact cB.toG (Me u hu (A:=B+7) (bs:=List.replicate 24 0) XR XX XQ hd0 (Lib.lt_pow_nDigits u) a6)) ?_
  rintro r g1 ob1 ⟨rfl,b2,hb2,hno,rfl⟩
  have hl2:=fu b2
  rw[H2] at hb2
  simp only[go_sem,n1,n2,hob,hl]
  refine⟨a6,a6,l0 _,a6,⟨a8,a6⟩,?_⟩
  refine⟨_,ab.refl _,?_⟩
  simp only[go_sem,n1,n2]
  refine⟨b2.take (Lib.nDigits u),hno,by rw[j4,A8];omega,?_,?_,fun i hi hne=>by have:=Nat.ne_of_lt (E5 hi (Q2 B 7));simp[upd,hne,this]⟩
  ·simp only[pack,upd,A5,j4,A8,hb2,show min (Lib.nDigits u) 24=Lib.nDigits u by omega]
  ·rw[upd,if_pos rfl,l5 a6,kx,ud]
theorem wS (B:Nat) (ho:oI o) (u:Nat) (hu:u<1000000000) (hA:A<B) (hg:g A=gA) (hob:ob A=some (iq bs)) (hbn:bs.length=n) (hn:n≤10000000) :
  ru Tryz.prog 3 o 43 [.one (.osl A gA 1 0 n),iv .i64 u,iv .i64 10] g ob (App B A (n+20) bs g ob):=by
 refine lZ B 3 o aB mixed Tryz.func43 rfl c9 [.tmp 6] rfl c8 c8 (by simp[Tryz.ntmps43]) fun b₀ β0 s0 w0=>?_
 have hw:IntKind.u64.wrap (u:Int)=(u:Int):=by rw[IntKind.wrap_u64];omega
 have h0:¬(u:Int)<0:=a6
 simp only[go_sem,hw,h0]
 refine ji cn (fun s β ds w h=>h.1) rfl (by simp only[go_sem];exact vD B ho u a6 hA hg hob hbn hn) ?_
 exact Xw
theorem tr (B:Nat) (ho:oI o) (u:Nat) (hu:u<1000000000) (hA:A<B) (hg:g A=gA) (hob:ob A=some (iq bs)) (hbn:bs.length=n) (hn:n≤10000000) :
  ru Tryz.prog 3 o 17 [.one (.osl A gA 1 0 n),iv .i64 u,iv .i64 10] g ob (App B A (n+20) bs g ob):=by
 refine lZ B 3 o aB mixed Tryz.func17 rfl c9 [.tmp 6] rfl c8 c8 (by simp[Tryz.ntmps17]) fun b₀ β0 s0 w0=>?_
 simp only[go_sem]
 refine ji cn (fun s β ds w h=>h.1) rfl (by simp only[go_sem];exact wS B ho u hu hA hg hob hbn hn) ?_
 exact Xw
end
end
end Go.Proofs.YtgiigidgdhplfaaGreatDoor
namespace Go.Mach
section
open Go.Asm (Str)
section
def applyN (op a b:Nat):Option Nat:=
 if op=4 then some ((a+b)%4294967296)
 else if op=5 then some ((a+4294967296-b)%4294967296)
 else if op=6 then some (a*b%4294967296)
 else if op=7 then(if b=0 then none else some (a/b))
 else if op=8 then(if b=0 then none else some (a%b))
 else if op=9 then some (a &&& b)
 else if op=10 then some (a ||| b)
 else if op=11 then some (a ^^^ b)
 else if op=12 then some (if 31<b then 0 else a*2^b%4294967296)
 else if op=13 then some (if 31<b then 0 else a/2^b)
 else if op=14 then some (if a<b then 1 else 0)
 else some (if a=b then 1 else 0)
theorem cq {α:Type}{Q:α→Prop}{p:Prop} [Decidable p] {a b:α} (ha:p→Q a) (hb:¬p→Q b):Q (if p then a else b):=by
 by_cases h:p
 ·rw[if_pos h];exact ha h
 ·rw[if_neg h];exact hb h
theorem Co {op a b x:Nat} (ha:a<4294967296) (hb:b<4294967296) (h:applyN op a b=some x):x<4294967296:=by
 revert h
 unfold applyN
 have hle:∀{y:Nat},y<4294967296→some y=some x→x<4294967296:=fun h e=>by cases e;exact h
 have hm:∀y,y%4294967296<4294967296:=fun y=>P4 _ a8
 refine cq (Q:=fun o=>o=some x→x<4294967296) (fun _=>hle (hm _)) fun _=>?_
 refine cq (Q:=fun o=>o=some x→x<4294967296) (fun _=>hle (hm _)) fun _=>?_
 refine cq (Q:=fun o=>o=some x→x<4294967296) (fun _=>hle (hm _)) fun _=>?_
 refine cq (Q:=fun o=>o=some x→x<4294967296) (fun _=>cq (Q:=fun o=>o=some x→x<4294967296) (fun _ h=>by cases h) (fun _=>hle (E9 (L7 _ _) ha))) fun _=>?_
 refine cq (Q:=fun o=>o=some x→x<4294967296) (fun _=>cq (Q:=fun o=>o=some x→x<4294967296) (fun _ h=>by cases h) (fun _=>hle (E9 (Nat.mod_le _ _) ha))) fun _=>?_
 refine cq (Q:=fun o=>o=some x→x<4294967296) (fun _=>hle (E9 Nat.and_le_left ha)) fun _=>?_
 refine cq (Q:=fun o=>o=some x→x<4294967296) (fun _=>hle (Nat.or_lt_two_pow (n:=32) ha hb)) fun _=>?_
 refine cq (Q:=fun o=>o=some x→x<4294967296) (fun _=>hle (Nat.xor_lt_two_pow (n:=32) ha hb)) fun _=>?_
 refine cq (Q:=fun o=>o=some x→x<4294967296) (fun _=>hle (cq (Q:=(· < 4294967296)) (fun _=>by decide) (fun _=>hm _))) fun _=>?_
 refine cq (Q:=fun o=>o=some x→x<4294967296) (fun _=>hle (cq (Q:=(· < 4294967296)) (fun _=>by decide) (fun _=>E9 (L7 _ _) ha))) fun _=>?_
 exact cq (Q:=fun o=>o=some x→x<4294967296) (fun _=>hle (cq (Q:=(· < 4294967296)) (fun _=>by decide) (fun _=>by decide))) fun _=>hle (cq (Q:=(· < 4294967296)) (fun _=>by decide) (fun _=>by decide))
structure M where
 pc:Nat
 reg:List Nat
 mem:List Nat
 rd:Nat
 out:Str
 steps:Nat
 fin:Nat
def start (data:Nat):M:=⟨0,List.replicate 16 0,List.replicate data 0,0,[],0,0⟩
def M.set (m:M) (a x:Nat):M:={ m with reg:=m.reg.set a x,pc:=m.pc+1 }
def M.r (m:M) (a:Nat):Nat:=m.reg.getD a 0
def doM (code:List Nat) (inp:Str) (m:M) (op a b c:Nat):M:=
 if op=1 then m.set a c
 else if op=2 then m.set a (m.r a%65536+c*65536)
 else if op=3 then m.set a (m.r b)
 else if op=16 then(match m.mem[(m.r b+c)%4294967296]? with|some x=>m.set a x|none=>{ m with fin:=8 })
 else if op=27 then(match code[(m.r b+c)%4294967296]? with|some x=>m.set a x|none=>{ m with fin:=8 })
 else if op=17 then(if (m.r b+c)%4294967296<m.mem.length then { m with mem:=m.mem.set ((m.r b+c)%4294967296) (m.r a),pc:=m.pc+1 } else { m with fin:=8 })
 else if op=18 then { m with pc:=c }
 else if op=19 then { m with pc:=if m.r a=0 then c else m.pc+1 }
 else if op=20 then { m with pc:=if m.r a=0 then m.pc+1 else c }
 else if op=21 then { m with reg:=m.reg.set a ((m.pc+1)%4294967296),pc:=c }
 else if op=22 then { m with pc:=m.r a }
 else if op=23 then(match inp[m.rd]? with|some x=>{ m.set a x.toNat with rd:=m.rd+1 }|none=>m.set a 256)
 else if op=24 then(if 65536≤m.out.length then { m with fin:=4 } else { m with out:=m.out++[UInt8.ofNat (m.r a)],pc:=m.pc+1 })
 else if op=25 then(if c≤m.r a then { m with fin:=3 } else { m with pc:=m.pc+1 })
 else if op=26 then { m with fin:=1 }
 else(match applyN op (m.r b) (m.r c) with|some x=>m.set a x|none=>{ m with fin:=2 })
def kE (okI:Nat→Nat→Nat→Nat→Bool) (code:List Nat) (inp:Str) (m:M):M:=
 match code[m.pc]? with
 |none=>{ m with fin:=7 }
 |some w=>
   if okI (w/16777216) (w/1048576%16) (w/65536%16) (w%65536)=true then
    doM code inp { m with steps:=m.steps+1 } (w/16777216) (w/1048576%16) (w/65536%16) (w%65536)
   else { m with steps:=m.steps+1,fin:=6 }
def runM (okI:Nat→Nat→Nat→Nat→Bool) (code:List Nat) (inp:Str):Nat→M→M
 |0,m=>m
 |n+1,m=>if m.fin=0 then runM okI code inp n (kE okI code inp m) else m
structure Good (m:M):Prop where
 len:m.reg.length=16
 reg:∀x∈m.reg,x<4294967296
 mem:∀x∈m.mem,x<4294967296
 pc:m.pc≤4294967296+m.steps
 out:m.out.length≤65536
 fin:m.fin≤8
theorem Good.r {m:M} (h:Good m) (a:Nat):m.r a<4294967296:=by
 unfold M.r
 rw[D0]
 cases hx:m.reg[a]? with
 |none=>decide
 |some x=>exact h.reg x (l6 hx)
theorem mem_set {l:List Nat}{i x y:Nat} (h:y∈l.set i x):y∈l∨y=x:=O7 h
theorem Good.set {m:M} (h:Good m) {a x:Nat} (hx:x<4294967296) {s':Nat} (hs:m.steps<s'):Good { m.set a x with steps:=s' }:=by
 refine⟨by simp[M.set,h.len],fun y hy=>?_,h.mem,?_,h.out,h.fin⟩
 ·rcases mem_set hy with hy|rfl
  ·exact h.reg y hy
  ·exact hx
 ·have:=h.pc;simp only[M.set];omega
variable {m:M}{code:List Nat}{inp:Str}{okI:Nat→Nat→Nat→Nat→Bool}
theorem Jl (h:Good m) (hc:∀x∈code,x<4294967296) {op a b c:Nat} (hcc:c≤65535):Good (doM code inp { m with steps:=m.steps+1 } op a b c):=by
 have hr:∀a,({ m with steps:=m.steps+1 }:M).r a<4294967296:=fun a=>h.r a
 have hset:∀{a x:Nat},x<4294967296→Good (({ m with steps:=m.steps+1 }:M).set a x):=fun {a x} hx=>h.set hx (Nat.lt_succ_self _)
 have hpc:=h.pc
 have hst:∀{f pc':Nat},f≤8→pc'≤4294967296+(m.steps+1)→Good { m with steps:=m.steps+1,pc:=pc',fin:=f }:=fun hf hp=>⟨h.len,h.reg,h.mem,hp,h.out,hf⟩
 have hf:=h.fin
 have hlast:∀r c,Good (match applyN op (({ m with steps:=m.steps+1 }:M).r b) (({ m with steps:=m.steps+1 }:M).r c) with|some x=>({ m with steps:=m.steps+1 }:M).set r x|none=>{ m with steps:=m.steps+1,fin:=2 }):=fun r c=>by
  split
  ·exact hset (Co (hr _) (hr _) j0)
  ·exact hst a8 Ye
 unfold doM
 refine cq (fun _=>hset a6) fun _=>?_
 refine cq (fun _=>hset (by have:=hr a;omega)) fun _=>?_
 refine cq (fun _=>hset (hr _)) fun _=>?_
 refine cq (fun _=>?_) fun _=>?_
 ·cases hx:({ m with steps:=m.steps+1 }:M).mem[(({ m with steps:=m.steps+1 }:M).r b+c)%4294967296]? with
  |some x=>exact hset (h.mem _ (l6 hx))
  |none=>exact hst a8 Ye
 refine cq (fun _=>?_) fun _=>?_
 ·cases hx:code[(({ m with steps:=m.steps+1 }:M).r b+c)%4294967296]? with
  |some x=>exact hset (hc _ (l6 hx))
  |none=>exact hst a8 Ye
 refine cq (fun _=>?_) fun _=>?_
 ·refine cq (fun _=>?_) fun _=>hst a8 Ye
  refine⟨h.len,h.reg,fun y hy=>?_,by simp only;omega,h.out,hf⟩
  rcases mem_set hy with hy|rfl
  ·exact h.mem y hy
  ·exact hr a
 refine cq (fun _=>hst hf Ye) fun _=>?_
 refine cq (fun _=>hst hf (by split <;> first|omega|(simp only;omega))) fun _=>?_
 refine cq (fun _=>hst hf (by split <;> first|omega|(simp only;omega))) fun _=>?_
 refine cq (fun _=>?_) fun _=>?_
 ·refine⟨by simp[h.len],fun y hy=>?_,h.mem,by simp only;omega,h.out,hf⟩
  rcases mem_set hy with hy|rfl
  ·exact h.reg y hy
  ·exact P4 _ a8
 refine cq (fun _=>hst hf (by have:=hr a;omega)) fun _=>?_
 refine cq (fun _=>?_) fun _=>?_
 ·cases hx:inp[({ m with steps:=m.steps+1 }:M).rd]? with
  |some x=>
    have hx:=x.toNat_lt
    have:=hset (a:=a) (x:=x.toNat) a6
    exact⟨this.len,this.reg,this.mem,this.pc,this.out,this.fin⟩
  |none=>exact hset a8
 refine cq (fun _=>?_) fun _=>?_
 ·refine cq (fun _=>hst a8 Ye) fun hn=>?_
  refine⟨h.len,h.reg,h.mem,by simp only;omega,?_,hf⟩
  simp only at hn
  simp only[j4,J0];omega
 refine cq (fun _=>cq (fun _=>hst a8 Ye) fun _=>hst hf (by first|omega|(simp only;omega))) fun _=>?_
 exact cq (fun _=>hst a8 Ye) fun _=>hlast a c
theorem uy (h:Good m) (hc:∀x∈code,x<4294967296):Good (kE okI code inp m):=by
 have hpc:=h.pc
 unfold kE
 split
 ·exact⟨h.len,h.reg,h.mem,hpc,h.out,by simp only;omega⟩
 ·split
  ·exact Jl h hc a6
  ·exact⟨h.len,h.reg,h.mem,by simp only;omega,h.out,by simp only;omega⟩
theorem nK (d:Nat):Good (start d):=⟨by simp[start],fun x hx=>by rw[H7 hx];decide,fun x hx=>by rw[H7 hx];decide,by simp[start],by simp[start],by simp[start]⟩
theorem FK (h:m.fin≠0):∀n,runM okI code inp n m=m
 |0=>rfl
 |n+1=>by unfold runM;rw[if_neg h]
theorem uz{n:Nat} (h:m.fin=0):runM okI code inp (n+1) m=runM okI code inp n (kE okI code inp m):=by
 conv=>lhs;unfold runM
 rw[if_pos h]
theorem sA {okI:Nat→Nat→Nat→Nat→Bool}{code:List Nat}{inp:Str} (hc:∀x∈code,x<4294967296):∀{n:Nat}{m:M},Good m→Good (runM okI code inp n m)
 |0,m,h=>h
 |n+1,m,h=>by
   unfold runM
   split
   ·exact sA hc (uy h hc)
   ·exact h
def Cp (okI:Nat→Nat→Nat→Nat→Bool) (code:List Nat) (data:Nat) (inp:Str) (fuel:Nat):Nat×Str×Nat:=
 let m:=runM okI code inp fuel (start data)
 (if m.fin=0 then 5 else m.fin,m.out,m.steps)
end
end
end Go.Mach

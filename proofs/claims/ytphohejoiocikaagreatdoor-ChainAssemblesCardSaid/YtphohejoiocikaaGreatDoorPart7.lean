/- A part of the proof; no conditions. -/
import Derived.Test.YtphohejoiocikaaGreatDoorPart6
set_option linter.unusedSimpArgs false
set_option linter.unusedVariables false
set_option maxHeartbeats 64000000
set_option maxRecDepth 100000
namespace Go.Proofs.YtphohejoiocikaaGreatDoor
section
attribute [local congr] Go.Am.ite_cc
open Go Go.Am Go.Asm
section
def zR:Option Str→Src.R (Nat×Str×Nat)
 |some t=>.ok (4,t,0)
 |none=>.err 3
theorem dC (c:UInt8) (r:Str):Src.firstT (c::r)=if digit c=true then(if 4294967295<dy ((c::r).takeWhile digit) then .err 2 else .ok (2,(c::r).takeWhile digit,dy ((c::r).takeWhile digit)))
  else if c=39 then ma (c::r) else if letter c=true then mb ((c::r).takeWhile bQ)
  else zR (Src.eV.find? fun t=>t.isPrefixOf (c::r)):=by
 unfold Src.firstT mb
 by_cases hd:digit c=true
 ·simp only[hd,A9]
 simp only[hd,A1]
 by_cases h39:c=39
 ·simp only[h39,A9]
  match r with
  |[]=>rfl
  |[_]=>rfl
  |x::y::r=>rfl
 ·simp only[h39,A1]
  rfl
theorem xb {α:Type}{p:α→Bool}{l:List α}{k:Nat}{x:α} (h:∀y∈l.take k,p y=false) (hx:l[k]? = some x) (hp:p x=true):l.find? p=some x:=by
 have hk:=(j0.1 hx).1
 rw[←E3 k l,List.find?_append,List.find?_eq_none.2 (fun y hy=>by rw[h y hy];simp)]
 have:l.drop k=x::l.drop (k+1):=by
  rw[z7 hk]
  congr 1
  exact B3 ((p7 hk).symm.trans hx)
 rw[this,List.find?_cons,hp]
 rfl
theorem py {k v:Nat}{t:Str}:lB (.ok (k,t,v))=.tup [.agg [.d (.int .i64 (k:Nat)),.d (.str t),.d (.int .u32 (v:Nat)),.d (.int .i64 ((0:Nat):Int))],iv .i64 0]:=rfl
theorem pz {e:Nat}:lB (.err e)=.tup [.agg [.d (.int .i64 ((0:Nat):Int)),.d (.str []),.d (.int .u32 ((0:Nat):Int)),.d (.int .i64 ((0:Nat):Int))],iv .i64 (e:Nat)]:=rfl
variable {o:bU}
theorem tv (c:UInt8) (s:Str) (h0:s[0]? = some c) (hs:s.length≤1000000) (hd:digit c=true) {x:Src.R (Nat×Str×Nat)} (hx:(if 4294967295<dy (s.takeWhile digit) then .err 2 else .ok (2,s.takeWhile digit,dy (s.takeWhile digit)))=x) :
  bu Tryz.prog 5 o 165 [sv s] (· = lB x):=by
 refine hdG Tryz.func165 rfl [.cell 2 101,.tmp 3] fun b₀ β0 s0 w0 g=>?_
 have hD:=iz c
 rw[hd] at hD
 have hl:=z6 (C1 digit (l:=s)).length_le hs
 have hN:=uL (s.takeWhile digit) a6 List.all_takeWhile
 rw[hx] at hN
 have hfr:=rC iz s a6
 generalize s.takeWhile digit=u at hN hfr hx
 simp only[go_sem,h0]
 refine cO rfl Ok ?_
 rintro _ rfl
 simp only[go_sem]
 refine cO rfl (by simp only[go_sem];exact hfr) ?_
 rintro _ rfl
 simp only[go_sem]
 refine cO rfl Oj ?_
 rintro _ rfl
 cases x with
 |ok y=>
   exact MY
 |err e=>
   exact Nj
theorem uP (s:Str) (h0:s[0]? = some 39):bu Tryz.prog 5 o 165 [sv s] (· = lB (ma s)):=by
 refine hdG Tryz.func165 rfl [.cell 2 101,.tmp 3] fun b₀ β0 s0 w0 g=>?_
 have hD:=iz 39
 rw[show digit 39=false from rfl] at hD
 have hi:(((39:UInt8).toNat:Nat):Int)=39:=rfl
 have hB:=zO s
 generalize ma s=x at hB ⊢
 simp only[go_sem,h0]
 refine cO rfl Ok ?_
 rintro _ rfl
 simp only[go_sem,hi]
 refine cO rfl OG ?_
 rintro _ rfl
 cases x with
 |ok y=>
   exact MY
 |err e=>
   exact Nj
theorem uQ (ho:mM o) (c:UInt8) (s:Str) (h0:s[0]? = some c) (hs:s.length≤1000000) (hd:digit c=false) (h39:c≠39) (hl:letter c=true) :
  bu Tryz.prog 5 o 165 [sv s] (· = lB (mb (s.takeWhile bQ))):=by
 refine hdG Tryz.func165 rfl [.cell 2 101,.tmp 3] fun b₀ β0 s0 w0 g=>?_
 have hD:=iz c
 rw[hd] at hD
 have hL:=mI c
 rw[hl] at hL
 have hi:¬((c.toNat:Nat):Int)=39:=fW (d:=39) h39
 have hfr:=rC wV s a6
 have hN:=zQ ho (s.takeWhile bQ)
 generalize s.takeWhile bQ=u at hN hfr ⊢
 generalize mb u=x at hN ⊢
 simp only[go_sem,h0]
 refine cO rfl Ok ?_
 rintro _ rfl
 simp only[go_sem,hi]
 refine cO rfl Og ?_
 rintro _ rfl
 simp only[go_sem]
 refine cO rfl (by simp only[go_sem];exact hfr) ?_
 rintro _ rfl
 simp only[go_sem]
 refine er rfl Oj ?_
 rintro _ rfl
 cases x with
 |ok y=>
   exact MY
 |err e=>
   exact Nj
theorem uR (ho:mM o) (c:UInt8) (s:Str) (h0:s[0]? = some c) (hd:digit c=false) (h39:c≠39) (hl:letter c=false) {x:Option Str} (hx:Src.eV.find? (fun t=>t.isPrefixOf s)=x) :
  bu Tryz.prog 5 o 165 [sv s] (· = lB (zR x)):=by
 refine hdG Tryz.func165 rfl [.cell 2 101,.tmp 3] fun b₀ β0 s0 w0 g=>?_
 have hD:=iz c
 rw[hd] at hD
 have hL:=mI c
 rw[hl] at hL
 have hi:¬((c.toNat:Nat):Int)=39:=fW (d:=39) h39
 have hsl:Src.eV.length=24:=rfl
 simp only[go_sem,h0]
 refine cO rfl Ok ?_
 rintro _ rfl
 simp only[go_sem,hi]
 refine cO rfl Og ?_
 rintro _ rfl
 simp only[go_sem]
 refine aM (fun n st=>∃k:Nat,n+k=24∧st.f 0=sv s∧st.f 31=iv .i64 k∧st.f 2=.one (.ptr 2 (nxC 102 (g 2)) 0)∧st.gen 2=nxC 102 (g 2)∧st.obj 2=some [.d (.int .i64 0),.d (.str []),.d (.int .u32 0),.d (.int .i64 0)]∧∀t∈Src.eV.take k,t.isPrefixOf s=false) 24 ?_ ?_
 ·refine⟨0,rfl,?_⟩
  simp only[go_sem]
  simp
 rintro n f g' ob ⟨k,hk,q0,q31,q2,g2,o2,hno⟩
 simp only at q0 q31 q2 g2 o2
 have hw:=ag (k:=k) a6
 by_cases hlt:k<24
 ·have hlti:(k:Int)<24:=a6
  obtain⟨t,ht⟩:=getq (l:=Src.eV) (k:=k) a6
  have hP:=nw s t
  have hrow:∀w:World,lr 5 o w→∀(j:Nat) (x:D),([D.str t]:List D)[j]? = some x→w.cell? ⟨2,k*(Tt 9).size+j,none⟩=some (dV x):=fun w hw j x hx=>by
   match j,hx with
   |0,hx=>cases hx;rw[show k*(Tt 9).size+0=k from by show k*1+0=k;omega];exact(ho w hw).2 k t ht
  simp only[go_sem,q0,q31,hlti]
  refine mn aB (fun s β ds w h=>h.1.2) aQ (n:=24) (e:=9) rfl rfl a8 (kd:=.i64) (i:=k) (by simp only[go_sem,q31]) hlt (cs:=[.str t]) (fun j x hx=>by match j,hx with|0,hx=>cases hx;rfl) hrow ?_
  simp only[go_sem,q0]
  refine cO rfl (by simp only[go_sem];exact hP) ?_
  rintro _ rfl
  cases hp:t.isPrefixOf s
  ·simp only[go_sem,q31,hw]
   refine ar (n-1) a6 ⟨k+1,a6,?_⟩
   simp only[go_sem,q0,q2,g2,o2]
   rw[B9,ht]
   intro x hx
   rcases K9.1 hx with hx|hx
   ·exact hno x hx
   ·simp at hx;rw[hx];exact hp
  ·rw[xb (p:=fun t=>t.isPrefixOf s) hno ht hp] at hx
   subst hx
   simp only[go_sem,q31,hlti]
   refine mn aB (fun s β ds w h=>h.1.2) aQ (n:=24) (e:=9) rfl rfl a8 (kd:=.i64) (i:=k) (by simp only[go_sem,q31]) hlt (cs:=[.str t]) (fun j x hx=>by match j,hx with|0,hx=>cases hx;rfl) hrow ?_
   simp only[go_sem,q2,g2,o2]
   exact⟨_,cm (k:=4) (v:=0) (e:=0),rfl⟩
 ·obtain rfl:k=24:=a6
  rw[j4 (by rw[hsl];decide)] at hno
  rw[List.find?_eq_none.2 (fun y hy=>by rw[hno y hy];simp)] at hx
  subst hx
  simp only[go_sem,q0,q31,q2,g2,o2,show ¬((24:Nat):Int)<24 by decide]
  exact MS
theorem Cm (ho:mM o) (c:UInt8) (r:Str) (hs:(c::r).length≤1000000):bu Tryz.prog 5 o 165 [sv (c::r)] (· = lB (Src.firstT (c::r))):=by
 rw[dC]
 cases hd:digit c with
 |true=>rw[if_pos rfl];exact tv c (c::r) rfl hs hd rfl
 |false=>
   rw[if_neg a7]
   by_cases h39:c=39
   ·rw[if_pos h39];exact uP (c::r) (by rw[h39];rfl)
   ·rw[if_neg h39]
    cases hl:letter c with
    |true=>rw[if_pos rfl];exact uQ ho c (c::r) rfl hs hd h39 hl
    |false=>rw[if_neg a7];exact uR ho c (c::r) rfl hd h39 hl rfl
end
def bN (l:List Src.Tok):D:=.sl (l.map fB)
def Cn (r:List Src.Tok×Nat×Nat):AV:=.tup [.one (.d (bN r.1)),iv .i64 (r.2.1:Nat),iv .i64 (r.2.2:Nat)]
def me (l:List Src.Tok):List C:=l.flatMap fun t=>(fB t).map .d
theorem mN:∀l:List Src.Tok,(me l).length=l.length*4
 |[]=>rfl
 |t::l=>by have ih:=mN l;unfold me at ih ⊢;rw[y7,c9,ih];simp only[fB,b7,e8,n9];omega
theorem pA (l:List Src.Tok) (t:Src.Tok):me (l++[t])=me l++(fB t).map .d:=by unfold me;rw[G7];simp
def kU (l:List Src.Tok):Src.R (List Src.Tok)×Nat→Src.R (List Src.Tok)×Nat
 |(.ok l',p)=>(.ok (l++l'),p)
 |(.err e,p)=>(.err e,p)
theorem tw (x:Src.R (List Src.Tok)×Nat):kU [] x=x:=by obtain⟨a,b⟩:=x;cases a <;> rfl
theorem qA (l:List Src.Tok) (t:Src.Tok) (x:Src.R (List Src.Tok)×Nat):kU (l++[t]) x=kU l (kU [t] x):=by obtain⟨a,b⟩:=x;cases a <;> simp[kU]
theorem bO {p:UInt8→Bool}:∀s:Str,s.drop (s.takeWhile p).length=s.dropWhile p
 |[]=>rfl
 |c::s=>by
   by_cases h:p c=true
   ·rw[B6,if_pos h,LA,if_pos h,e8,G6,bO s]
   ·rw[B6,if_neg h,LA,if_neg h];rfl
theorem pB {s t:Str}{k v:Nat} (h:Src.firstT s=.ok (k,t,v)):0<t.length∧t.length≤s.length∧v<4294967296∧k≤4:=by
 have hall:(Src.eV.all fun t=>decide (0<t.length))=true:=a8
 cases s with
 |nil=>unfold Src.firstT at h;cases h
 |cons c r=>
   rw[dC] at h
   have hsub:∀p:UInt8→Bool,((c::r).takeWhile p).length≤(c::r).length:=fun p=>(C1 p).length_le
   split at h
   ·rename_i hd
    split at h
    ·cases h
    ·cases h
     refine⟨?_,hsub _,a6,a8⟩
     rw[B6,if_pos hd];simp
   ·split at h
    ·unfold ma at h
     split at h
     ·rename_i x y r' hx
      split at h
      ·cases h
       rename_i hh
       rw[hx]
       refine⟨a7,a7,?_,a8⟩
       omega
      ·cases h
     ·cases h
    ·split at h
     ·rename_i hl
      unfold mb at h
      split at h
      ·cases h
      ·have h0:0<((c::r).takeWhile bQ).length:=by
        rw[B6,if_pos (by unfold bQ;rw[hl];rfl)];simp
       split at h <;> cases h <;> exact⟨h0,hsub _,a8,a8⟩
     ·cases hf:Src.eV.find? fun t=>t.isPrefixOf (c::r) with
      |some t'=>
        rw[hf] at h
        cases h
        have hm:=LI hf
        have hp:=List.find?_some hf
        refine⟨D8 (l7.1 hall _ hm),?_,a8,a8⟩
        exact(E1.1 hp).length_le
      |none=>rw[hf] at h;cases h
theorem pC {s:Str}{e:Nat} (hs:s≠[]) (h:Src.firstT s=.err e):e=2∨e=3:=by
 cases s with
 |nil=>exact absurd rfl hs
 |cons c r=>
   rw[dC] at h
   split at h
   ·split at h
    ·cases h;exact .inl rfl
    ·cases h
   ·split at h
    ·unfold ma at h
     split at h
     ·split at h
      ·cases h
      ·cases h;exact .inr rfl
     ·cases h;exact .inr rfl
    ·split at h
     ·unfold mb at h
      split at h
      ·cases h;exact .inl rfl
      ·split at h <;> cases h
     ·cases hf:Src.eV.find? fun t=>t.isPrefixOf (c::r) with
      |some t'=>rw[hf] at h;cases h
      |none=>rw[hf] at h;cases h;exact .inr rfl
theorem JI {o:bU} (ho:mM o) (s:Str):bu Tryz.prog 5 o 123 [sv s] (· = Cn (Src.mO s)):=by
 refine hdG Tryz.func123 rfl [.tmp 2,.tmp 3,.tmp 4] fun b₀ β0 s0 w0 g=>?_
 unfold Src.mO
 by_cases hbig:20000<s.length
 ·exact NL
 have hbi:¬(20000:Int)<(s.length:Int):=a6
 rw[if_neg hbig]
 simp only[go_sem,hbi]
 refine aM (fun n st=>∃(k:Nat) (m:Nat) (l:List Src.Tok),n+k=s.length∧(s.drop k).length<m∧Src.dU (s.length+1) 0 s=kU l (Src.dU m k (s.drop k))∧l.length≤k∧st.f 0=sv s∧st.f 6=iv .i64 k∧
  ((l=[]∧st.f 5=.one (.d .nsl))∨(l≠[]∧st.f 5=.one (.osl 61 (st.gen 61) 4 0 l.length)∧st.obj 61=some (me l)))) s.length ?_ ?_
 ·refine⟨0,s.length+1,[],a6,a7,by rw[tw];rfl,a7,?_⟩
  simp only[go_sem]
  exact .inl trivial
 rintro n f g' ob ⟨k,m,l,hk,hm,hL,hlk,q0,q6,q5⟩
 simp only at q0 q6 q5
 have hk0:(0:Int)≤(k:Int):=a6
 by_cases hlt:k<s.length
 case neg=>
  have hlti:¬(k:Int)<(s.length:Int):=a6
  rw[l6 a6] at hL
  obtain⟨m',rfl⟩:∃m',m=m'+1:=⟨m-1,a6⟩
  rw[hL]
  have hend:∀k,kU l (Src.dU (m'+1) k [])=(.ok l,0):=fun k=>by unfold Src.dU kU;simp
  exact Mj
 have hlti:(k:Int)<(s.length:Int):=a6
 obtain⟨c,hc⟩:=getq hlt
 have hdrop:s.drop k=c::s.drop (k+1):=by
  rw[z7 hlt]
  congr 1
  exact B3 ((p7 hlt).symm.trans hc)
 obtain⟨m',rfl⟩:∃m',m=m'+1:=⟨m-1,a6⟩
 have hml:(s.drop (k+1)).length<m':=by rw[hdrop] at hm;simp only[e8] at hm;omega
 have hw:=ag (k:=k) a6
 have hgo:∀k r,Src.dU (m'+1) k (c::r)=if c=32∨c=9∨c=10 then Src.dU m' (k+1) r
   else if c=47∧r.head? = some 47 then Src.dU m' (k+((c::r).takeWhile (· != 10)).length) ((c::r).dropWhile (· != 10))
   else match Src.firstT (c::r) with
    |.err e=>(.err e,k)
    |.ok (kd,t,v)=>kU [⟨kd,t,v,k⟩] (Src.dU m' (k+t.length) ((c::r).drop t.length)):=by
  intro k r
  conv=>lhs;unfold Src.dU
  split
  ·rfl
  ·split
   ·rfl
   ·split
    ·rename_i h;rw[h]
    ·rename_i kd t v h
     rw[h]
     simp only
     rcases Src.dU m' (k+t.length) ((c::r).drop t.length) with⟨a,b⟩
     cases a <;> rfl
 rw[hdrop,hgo] at hL
 by_cases hbl:c=32∨c=9∨c=10
 ·rw[if_pos hbl] at hL
  have hstep:(((c.toNat:Nat):Int)=32)∨(¬((c.toNat:Nat):Int)=32∧((c.toNat:Nat):Int)=9)∨(¬((c.toNat:Nat):Int)=32∧¬((c.toNat:Nat):Int)=9∧((c.toNat:Nat):Int)=10):=by
   rcases hbl with rfl|rfl|rfl
   ·exact .inl rfl
   ·exact .inr (.inl ⟨a8,rfl⟩)
   ·exact .inr (.inr ⟨a8,a8,rfl⟩)
  rcases hstep with h1|⟨h1,h2⟩|⟨h1,h2,h3⟩
  case' inl=>simp only[go_sem,q0,q6,hlti,hc,hk0,h1,hw]
  case' inr.inl=>simp only[go_sem,q0,q6,hlti,hc,hk0,h1,h2,hw]
  case' inr.inr=>simp only[go_sem,q0,q6,hlti,hc,hk0,h1,h2,h3,hw]
  all_goals
   refine ar (n-1) a6 ⟨k+1,m',l,a6,hml,hL,a6,?_⟩
   simp only[go_sem,q0]
   exact q5
 rw[if_neg hbl] at hL
 have b1:¬((c.toNat:Nat):Int)=32:=fW (d:=32) fun h=>hbl (.inl h)
 have b2:¬((c.toNat:Nat):Int)=9:=fW (d:=9) fun h=>hbl (.inr (.inl h))
 have b3:¬((c.toNat:Nat):Int)=10:=fW (d:=10) fun h=>hbl (.inr (.inr h))
 have hsl:List.drop k (List.take s.length s)=s.drop k:=by rw[G8]
 have hdl:(s.drop k).length≤1000000:=by rw[r9];omega
 simp only[go_sem,q0,q6,hlti,hc,hk0,b1,b2,b3,hsl]
 refine⟨a6,a6,?_⟩
 refine cO rfl (by simp only[go_sem];exact nw (s.drop k) [47,47]) ?_
 rintro _ rfl
 cases hp:([47,47]:Str).isPrefixOf (s.drop k)
 case true=>
  obtain⟨r2,hr2⟩:=E1.1 hp
  have hcm:c=47∧(s.drop (k+1)).head? = some 47:=by
   rw[hdrop] at hr2
   simp only[A5,K6,K7] at hr2
   exact⟨hr2.1.symm,by rw[←hr2.2];rfl⟩
  rw[if_pos hcm,←hdrop,←bO,C6] at hL
  have htl:((s.drop k).takeWhile (· != 10)).length≤(s.drop k).length:=(C1 _).length_le
  have ht1:1≤((s.drop k).takeWhile (· != 10)).length:=by
   rw[hdrop,B6,if_pos (by rw[hcm.1];rfl)];simp
  have hdl2:(s.drop k).length=s.length-k:=r9
  generalize hT:((s.drop k).takeWhile (· != 10)).length=T at hL htl ht1
  have hw2:IntKind.i64.wrap ((k:Int)+(T:Int))=((k+T:Nat):Int):=by rw[wrap_i64] <;> omega
  simp only[go_sem,q0,q6,hk0,hsl]
  refine⟨a6,a6,?_⟩
  refine cO rfl (by simp only[go_sem];exact rC Ce (s.drop k) a6) ?_
  rintro _ rfl
  simp only[go_sem,hT,hw2,q6]
  refine ar (n-T) a6 ⟨k+T,m',l,a6,by rw[r9];rw[r9] at hml;omega,hL,a6,?_⟩
  simp only[go_sem,q0]
  exact q5
 have hncm:¬(c=47∧(s.drop (k+1)).head? = some 47):=by
  rintro⟨h1,h2⟩
  rw[hdrop,h1] at hp
  cases hr:s.drop (k+1) with
  |nil=>rw[hr] at h2;cases h2
  |cons x y=>
    rw[hr] at h2 hp
    simp only[List.head?_cons,l9] at h2
    rw[h2] at hp
    simp[List.isPrefixOf] at hp
 rw[if_neg hncm] at hL
 have hF:=Cm ho c (s.drop (k+1)) (by rw[←hdrop];exact hdl)
 rw[←hdrop] at hF hL
 simp only[go_sem,q0,q6,hk0,hsl]
 refine⟨a6,a6,?_⟩
 refine er rfl (by simp only[go_sem];exact hF) ?_
 rintro _ rfl
 cases hf:Src.firstT (s.drop k) with
 |err e=>
   have he:e=2∨e=3:=pC (by rw[hdrop];simp) hf
   have hei:¬(e:Int)=0:=a6
   rw[hf] at hL
   simp only[kU] at hL
   rw[hL]
   unfold lB fM fB
   simp only[go_sem,j8,n0,hei,q6]
   exact MK
 |ok x=>
   obtain⟨kd,t,v⟩:=x
   obtain⟨t1,t2,t3,t4⟩:=pB hf
   rw[hf] at hL
   simp only at hL
   rw[C6,←qA] at hL
   have hdl2:(s.drop k).length=s.length-k:=r9
   have hw2:IntKind.i64.wrap ((k:Int)+(t.length:Int))=((k+t.length:Nat):Int):=by rw[wrap_i64] <;> omega
   unfold lB fM fB
   rcases q5 with⟨rfl,q5⟩|⟨hne,q5,o5⟩
   ·simp only[go_sem,j8,n0,q6,q5,aJ,hw2]
    refine⟨⟨a8,a8⟩,?_⟩
    refine ar (n-t.length) a6 ⟨k+t.length,m',[⟨kd,t,v,k⟩],a6,by rw[r9];rw[r9] at hml;omega,hL,by simp;omega,?_⟩
    simp only[go_sem,q0]
    first|exact .inr rfl|exact .inr ⟨by simp,rfl⟩|exact .inr ⟨by simp,rfl,rfl⟩
   ·have htc:=mN l
    simp only[go_sem,j8,n0,q6,q5,o5,aJ,hw2]
    refine⟨a6,⟨a8,a6⟩,?_⟩
    refine ar (n-t.length) a6 ⟨k+t.length,m',l++[⟨kd,t,v,k⟩],a6,by rw[r9];rw[r9] at hml;omega,hL,by simp;omega,?_⟩
    simp only[go_sem,q0]
    refine .inr ⟨a7,a7,?_⟩
    rw[pA,j4 a6]
    rfl
end
end Go.Proofs.YtphohejoiocikaaGreatDoor
namespace Go.Src
section
open Go.Asm (Str)
section
inductive PR (α:Type) where
 |ok (a:α) (n:Nat)
 |no (n:Nat)
def PR.bind {α β:Type} (x:PR α) (f:α→Nat→PR β):PR β:=match x with|.ok a n=>f a n|.no n=>.no n
variable {n:Nat}{α β:Type}{f:α→Nat→PR β}{p:PR α}
@[simp] theorem PR.bind_ok{a:α}:(PR.ok a n).bind f=f a n:=rfl
@[simp] theorem PR.bind_no:(PR.no n:PR α).bind f=.no n:=rfl
section
variable (ts:List Tok)
def aY (n:Nat):Nat:=match ts[n]? with|some t=>t.kind|none=>0
def ae (n:Nat):Str:=match ts[n]? with|some t=>if t.kind=3∨t.kind=4 then t.text else []|none=>[]
def takeN (k:Nat) (n:Nat):PR Tok:=match ts[n]? with|some t=>if t.kind=k then .ok t (n+1) else .no n|none=>.no n
def bj:List Str→Nat→PR Unit
 |[],n=>.ok () n
 |s::l,n=>if ae ts n=s then bj l (n+1) else .no n
mutual
def ci:Nat→Nat→Nat→PR Ex
 |0,_,n=>.no n
 |k+1,least,n=>(da k n).bind fun left n=>dv k least left n
def dv:Nat→Nat→Ex→Nat→PR Ex
 |0,_,_,n=>.no n
 |k+1,least,left,n=>
   if (cG (ae ts n)).2.2<least then .ok left n
   else(ci k ((cG (ae ts n)).2.2+1) (n+1)).bind fun right m=>dv k least (.mk (cG (ae ts n)).1 (cG (ae ts n)).2.1 0 [] [left,right]) m
def da:Nat→Nat→PR Ex
 |0,n=>.no n
 |k+1,n=>
   if aY ts n=2 then(takeN ts 2 n).bind fun t n=>.ok (.mk 1 0 t.num [] []) n
   else if ae ts n=[103,101,116] then(bj ts [aW,aT] (n+1)).bind fun _ n=>.ok (.mk 5 0 0 [] []) n
   else if ae ts n=aW then(ci k 1 (n+1)).bind fun e n=>(bj ts [aT] n).bind fun _ n=>.ok e n
   else if ae ts n=[33] then(da k (n+1)).bind fun e n=>.ok (.mk 7 0 0 [] [e]) n
   else(takeN ts 1 n).bind fun t n=>
    if ae ts n=[91] then(ci k 1 (n+1)).bind fun e n=>(bj ts [[93]] n).bind fun _ n=>.ok (.mk 3 0 0 t.text [e]) n
    else if ae ts n=aW then(dw k (n+1)).bind fun l n=>.ok (.mk 4 0 0 t.text l) n
    else .ok (.mk 2 0 0 t.text []) n
def dw:Nat→Nat→PR (List Ex)
 |0,n=>.no n
 |k+1,n=>
   if ae ts n=aT then .ok [] (n+1)
   else(ci k 1 n).bind fun e n=>dx k [e] n
def dx:Nat→List Ex→Nat→PR (List Ex)
 |0,_,n=>.no n
 |k+1,l,n=>
   if ae ts n=eW then(ci k 1 (n+1)).bind fun e n=>dx k (l++[e]) n
   else(bj ts [aT] n).bind fun _ n=>.ok l n
end
def eA (k n:Nat):PR (List Ex):=(bj ts [aW] n).bind fun _ n=>(ci ts k 1 n).bind fun e n=>(bj ts [aT] n).bind fun _ n=>.ok [e] n
def dD (k n:Nat):PR Stm:=
 (takeN ts 1 n).bind fun t n=>
   (if ae ts n=[61] then(ci ts k 1 (n+1)).bind fun e n=>.ok (Stm.mk 1 t.text [e] [] []) n
    else if ae ts n=[91] then(ci ts k 1 (n+1)).bind fun i n=>(bj ts [[93],[61]] n).bind fun _ n=>(ci ts k 1 n).bind fun e n=>.ok (Stm.mk 2 t.text [i,e] [] []) n
    else if ae ts n=aW then(dw ts k (n+1)).bind fun l n=>.ok (Stm.mk 6 t.text l [] []) n
    else .no n).bind fun s n=>(bj ts [bz] n).bind fun _ n=>.ok s n
mutual
def fh:Nat→Nat→PR Stm
 |0,n=>.no n
 |k+1,n=>
   if ae ts n=[112,117,116] then(eA ts k (n+1)).bind fun e n=>(bj ts [bz] n).bind fun _ n=>.ok (.mk 3 [] e [] []) n
   else if ae ts n=[114,101,116,117,114,110] then
    (if ae ts (n+1)=bz then .ok (.mk 7 [] [] [] []) (n+2)
     else(ci ts k 1 (n+1)).bind fun e n=>(bj ts [bz] n).bind fun _ n=>.ok (.mk 7 [] [e] [] []) n)
   else if ae ts n=[105,102] then
    (eA ts k (n+1)).bind fun e n=>(eJ k n).bind fun th n=>
      if ae ts n=[101,108,115,101] then(eJ k (n+1)).bind fun el n=>.ok (.mk 4 [] e th el) n
      else .ok (.mk 4 [] e th []) n
   else if ae ts n=[119,104,105,108,101] then
    (eA ts k (n+1)).bind fun e n=>(eJ k n).bind fun th n=>.ok (.mk 5 [] e th []) n
   else dD ts k n
def eJ:Nat→Nat→PR (List Stm)
 |0,n=>.no n
 |k+1,n=>(bj ts [[123]] n).bind fun _ n=>cj k [] n
def cj:Nat→List Stm→Nat→PR (List Stm)
 |0,_,n=>.no n
 |k+1,l,n=>
   if ae ts n=[125] then .ok l (n+1)
   else(fh k n).bind fun s n=>cj k (l++[s]) n
end
def cb:Nat→List Str→Nat→PR (List Str)
 |0,_,n=>.no n
 |k+1,l,n=>if ae ts n=eW then(takeN ts 1 (n+1)).bind fun t n=>cb k (l++[t.text]) n else .ok l n
def dh (k n:Nat):PR (List Str):=(takeN ts 1 n).bind fun t n=>cb ts k [t.text] n
def bP:Nat→List Str→Nat→PR (List Str)
 |0,_,n=>.no n
 |k+1,l,n=>if ae ts n=[118,97,114] then(dh ts k (n+1)).bind fun m n=>(bj ts [bz] n).bind fun _ n=>bP k (l++m) n else .ok l n
def kW (k n:Nat):PR Fn:=
 (bj ts [[102,117,110,99]] n).bind fun _ n=>(takeN ts 1 n).bind fun t n=>(bj ts [aW] n).bind fun _ n=>
   (if aY ts n=1 then dh ts k n else .ok [] n).bind fun ps n=>(bj ts [aT] n).bind fun _ n=>
     (bj ts [[123]] (if ae ts n=[119,111,114,100] then n+1 else n)).bind fun _ m=>(bP ts k [] m).bind fun ls m=>
       (cj ts k [] m).bind fun b m=>.ok ⟨t.text,ps,ls,decide (ae ts n=[119,111,114,100]),b⟩ m
def fN:Nat→List Str→List (Str×Int)→Nat→PR (List Str×List (Str×Int))
 |0,_,_,n=>.no n
 |k+1,vs,ars,n=>
   if ae ts n=[118,97,114] then(dh ts k (n+1)).bind fun m n=>(bj ts [bz] n).bind fun _ n=>fN k (vs++m) ars n
   else if ae ts n=[97,114,114,97,121] then
    (takeN ts 1 (n+1)).bind fun t n=>(bj ts [[91]] n).bind fun _ n=>(takeN ts 2 n).bind fun z n=>(bj ts [[93]] n).bind fun _ n=>(bj ts [bz] n).bind fun _ n=>fN k vs (ars++[(t.text,(z.num:Int))]) n
   else .ok (vs,ars) n
def gA:Nat→List Fn→Nat→PR (List Fn)
 |0,_,n=>.no n
 |k+1,l,n=>if n<ts.length then(kW ts k n).bind fun f n=>gA k (l++[f]) n else .ok l n
def jY (k n:Nat):PR Prog:=
 (fN ts k [] [] n).bind fun h n=>(kW ts k n).bind fun f n=>(gA ts k [f] n).bind fun fs n=>.ok ⟨h.1,h.2,fs⟩ n
end
def PR.Fwd {α:Type} (n:Nat) (p:PR α):Prop:=∀a m,p=.ok a m→n<m
def PR.FwdE {α:Type} (n:Nat) (p:PR α):Prop:=∀a m,p=.ok a m→n≤m
theorem PR.bind_fwd (h:p.Fwd n) (h':∀a m,(f a m).FwdE m):(p.bind f).Fwd n:=by
 intro b m hb
 cases p with
 |ok a k=>exact F8 (h a k rfl) (h' a k b m hb)
 |no k=>cases hb
theorem PR.bind_fwdE (h:p.FwdE n) (h':∀a m,(f a m).FwdE m):(p.bind f).FwdE n:=by
 intro b m hb
 cases p with
 |ok a k=>exact z6 (h a k rfl) (h' a k b m hb)
 |no k=>cases hb
theorem PR.Fwd.le {α:Type}{p:PR α} (h:p.Fwd n):p.FwdE n:=fun a m e=>LF (h a m e)
theorem PR.Fwd.of_succ {α:Type}{p:PR α} (h:p.FwdE (n+1)):p.Fwd n:=fun a m e=>h a m e
theorem PR.fwdE_ok {α:Type}{n m:Nat}{a:α} (h:n≤m):(PR.ok a m).FwdE n:=fun b k e=>by cases e;exact h
theorem PR.fwd_no {α:Type}{n m:Nat}:(PR.no m:PR α).Fwd n:=fun _ _ e=>by cases e
section
variable {ts:List Tok}
theorem bt {k n:Nat}:(takeN ts k n).Fwd n:=by
 intro a m h
 unfold takeN at h
 split at h
 ·split at h
  ·cases h;omega
  ·cases h
 ·cases h
theorem ay:∀{l:List Str}{n:Nat},(bj ts l n).FwdE n
 |[],n=>PR.fwdE_ok (b9 _)
 |s::l,n=>by
   unfold bj
   split
   ·exact fun a m e=>by have:=ay (l:=l) (n:=n+1) a m e;omega
   ·exact PR.fwd_no.le
mutual
theorem aU:∀(k least n:Nat),(ci ts k least n).Fwd n
 |0,_,_=>by unfold ci;exact PR.fwd_no
 |k+1,least,n=>by
   unfold ci
   exact PR.bind_fwd (mQ k n) fun a m=>mP k least a m
theorem mP:∀(k least:Nat) (left:Ex) (n:Nat),(dv ts k least left n).FwdE n
 |0,_,_,_=>by unfold dv;exact PR.fwd_no.le
 |k+1,least,left,n=>by
   unfold dv
   split
   ·exact PR.fwdE_ok (b9 _)
   ·exact fun a m e=>by have:=PR.bind_fwdE (aU k _ (n+1)).le (fun b q=>mP k least _ q) a m e;omega
theorem mQ:∀(k n:Nat),(da ts k n).Fwd n
 |0,_=>by unfold da;exact PR.fwd_no
 |k+1,n=>by
   unfold da
   split
   ·exact PR.bind_fwd bt fun a m=>PR.fwdE_ok (b9 _)
   split
   ·exact PR.Fwd.of_succ (PR.bind_fwdE ay fun a m=>PR.fwdE_ok (b9 _))
   split
   ·exact PR.Fwd.of_succ (PR.bind_fwdE (aU k 1 (n+1)).le fun a m=>PR.bind_fwdE ay fun b q=>PR.fwdE_ok (b9 _))
   split
   ·exact PR.Fwd.of_succ (PR.bind_fwdE (mQ k (n+1)).le fun a m=>PR.fwdE_ok (b9 _))
   refine PR.bind_fwd bt fun a m=>?_
   split
   ·exact(PR.Fwd.of_succ (PR.bind_fwdE (aU k 1 (m+1)).le fun a m=>PR.bind_fwdE ay fun b q=>PR.fwdE_ok (b9 _))).le
   split
   ·exact(PR.Fwd.of_succ (PR.bind_fwdE (qD k (m+1)).le fun a m=>PR.fwdE_ok (b9 _))).le
   ·exact PR.fwdE_ok (b9 _)
theorem qD:∀(k n:Nat),(dw ts k n).Fwd n
 |0,_=>by unfold dw;exact PR.fwd_no
 |k+1,n=>by
   unfold dw
   split
   ·exact PR.Fwd.of_succ (PR.fwdE_ok (b9 _))
   ·exact PR.bind_fwd (aU k 1 n) fun a m=>qE k [a] m
theorem qE:∀(k:Nat) (l:List Ex) (n:Nat),(dx ts k l n).FwdE n
 |0,_,_=>by unfold dx;exact PR.fwd_no.le
 |k+1,l,n=>by
   unfold dx
   split
   ·exact(PR.Fwd.of_succ (PR.bind_fwdE (aU k 1 (n+1)).le fun a m=>qE k (l++[a]) m)).le
   ·exact PR.bind_fwdE ay fun b q=>PR.fwdE_ok (b9 _)
end
theorem fC {k n:Nat}:(eA ts k n).FwdE n:=PR.bind_fwdE ay fun _ m=>PR.bind_fwdE (aU k 1 m).le fun _ m=>PR.bind_fwdE ay fun _ _=>PR.fwdE_ok (b9 _)
theorem uY {k n:Nat}:(dD ts k n).Fwd n:=by
 unfold dD
 refine PR.bind_fwd bt fun t m=>PR.bind_fwdE ?_ fun s q=>PR.bind_fwdE ay fun _ _=>PR.fwdE_ok (b9 _)
 split
 ·exact(PR.Fwd.of_succ (PR.bind_fwdE (aU k 1 (m+1)).le fun _ _=>PR.fwdE_ok (b9 _))).le
 split
 ·exact(PR.Fwd.of_succ (PR.bind_fwdE (aU k 1 (m+1)).le fun _ _=>PR.bind_fwdE ay fun _ q=>PR.bind_fwdE (aU k 1 q).le fun _ _=>PR.fwdE_ok (b9 _))).le
 split
 ·exact(PR.Fwd.of_succ (PR.bind_fwdE (qD k (m+1)).le fun _ _=>PR.fwdE_ok (b9 _))).le
 ·exact PR.fwd_no.le
mutual
theorem kl:∀(k n:Nat),(fh ts k n).Fwd n
 |0,_=>by unfold fh;exact PR.fwd_no
 |k+1,n=>by
   unfold fh
   split
   ·exact PR.Fwd.of_succ (PR.bind_fwdE fC fun _ _=>PR.bind_fwdE ay fun _ _=>PR.fwdE_ok (b9 _))
   split
   ·split
    ·exact fun a m e=>by cases e;omega
    ·exact PR.Fwd.of_succ (PR.bind_fwdE (aU k 1 (n+1)).le fun _ _=>PR.bind_fwdE ay fun _ _=>PR.fwdE_ok (b9 _))
   split
   ·refine PR.Fwd.of_succ (PR.bind_fwdE fC fun _ m=>PR.bind_fwdE (iB k m) fun _ q=>?_)
    split
    ·exact(PR.Fwd.of_succ (PR.bind_fwdE (iB k (q+1)) fun _ _=>PR.fwdE_ok (b9 _))).le
    ·exact PR.fwdE_ok (b9 _)
   split
   ·exact PR.Fwd.of_succ (PR.bind_fwdE fC fun _ m=>PR.bind_fwdE (iB k m) fun _ _=>PR.fwdE_ok (b9 _))
   ·exact uY
theorem iB:∀(k n:Nat),(eJ ts k n).FwdE n
 |0,_=>by unfold eJ;exact PR.fwd_no.le
 |k+1,n=>by
   unfold eJ
   exact PR.bind_fwdE ay fun _ m=>(jb k [] m).le
theorem jb:∀(k:Nat) (l:List Stm) (n:Nat),(cj ts k l n).Fwd n
 |0,_,_=>by unfold cj;exact PR.fwd_no
 |k+1,l,n=>by
   unfold cj
   split
   ·exact PR.Fwd.of_succ (PR.fwdE_ok (b9 _))
   ·exact PR.bind_fwd (kl k n) fun a m=>(jb k _ m).le
end
theorem mf:∀{k:Nat}{l:List Str}{n:Nat},(cb ts k l n).FwdE n
 |0,_,_=>by unfold cb;exact PR.fwd_no.le
 |k+1,l,n=>by
   unfold cb
   split
   ·exact(PR.Fwd.of_succ (PR.bind_fwdE bt.le fun _ _=>mf)).le
   ·exact PR.fwdE_ok (b9 _)
theorem fD {k n:Nat}:(dh ts k n).Fwd n:=PR.bind_fwd bt fun _ _=>mf
theorem gJ:∀{k:Nat}{l:List Str}{n:Nat},(bP ts k l n).FwdE n
 |0,_,_=>by unfold bP;exact PR.fwd_no.le
 |k+1,l,n=>by
   unfold bP
   split
   ·exact(PR.Fwd.of_succ (PR.bind_fwdE fD.le fun _ _=>PR.bind_fwdE ay fun _ _=>gJ)).le
   ·exact PR.fwdE_ok (b9 _)
theorem Aa {k n:Nat}:(kW ts k n).Fwd n:=by
 unfold kW
 intro a m h
 cases hm:bj ts [[102,117,110,99]] n with
 |no _=>rw[hm] at h;cases h
 |ok u q=>
   rw[hm] at h
   have h1:=ay (ts:=ts) (l:=[[102,117,110,99]]) (n:=n) u q hm
   have h2:=PR.bind_fwd (p:=takeN ts 1 q) (n:=q) bt (fun t m=>PR.bind_fwdE (β:=Fn) (f:=fun _ n=>
    (if aY ts n=1 then dh ts k n else .ok [] n).bind fun ps n=>(bj ts [aT] n).bind fun _ n=>
    (bj ts [[123]] (if ae ts n=[119,111,114,100] then n+1 else n)).bind fun _ m=>(bP ts k [] m).bind fun ls m=>
      (cj ts k [] m).bind fun b m=>.ok ⟨t.text,ps,ls,decide (ae ts n=[119,111,114,100]),b⟩ m) (ay (l:=[aW])) fun _ x=>PR.bind_fwdE (by split;exact fD.le;exact PR.fwdE_ok (b9 _)) fun ps y=>PR.bind_fwdE ay fun _ z=>by
      have h3:∀v,z≤v→((bj ts [[123]] v).bind fun _ m=>(bP ts k [] m).bind fun ls m=>(cj ts k [] m).bind fun b m=>(PR.ok (Fn.mk t.text ps ls (decide (ae ts z=[119,111,114,100])) b) m)).FwdE z:=fun v hv a m e=>by
       have:=PR.bind_fwdE (p:=bj ts [[123]] v) ay (fun _ m=>PR.bind_fwdE (gJ (k:=k) (l:=[])) fun ls m=>PR.bind_fwdE (jb k [] m).le fun b m=>PR.fwdE_ok (a:=Fn.mk t.text ps ls (decide (ae ts z=[119,111,114,100])) b) (b9 m)) a m e
       omega
      apply h3
      split <;> omega) a m h
   omega
end
end
end
end Go.Src

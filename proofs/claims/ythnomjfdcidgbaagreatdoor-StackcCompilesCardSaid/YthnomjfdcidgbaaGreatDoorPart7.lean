/- A part of the proof; no conditions. -/
import Derived.Test.YthnomjfdcidgbaaGreatDoorPart6
set_option linter.unusedSimpArgs false
set_option linter.unusedVariables false
set_option maxHeartbeats 64000000
set_option maxRecDepth 100000
namespace Go.Proofs.YthnomjfdcidgbaaGreatDoor
section
attribute [local congr] Go.Am.ite_cc
open Go Go.Am Go.Asm
section
def FL:Option Str→Src.R (Nat×Str×Nat)
 |some t=>.ok (4,t,0)
 |none=>.err 3
theorem gg (c:UInt8) (r:Str):Src.firstT (c::r)=if digit c=true then(if 4294967295<fS ((c::r).takeWhile digit) then .err 2 else .ok (2,(c::r).takeWhile digit,fS ((c::r).takeWhile digit)))
  else if c=39 then pZ (c::r) else if letter c=true then qa ((c::r).takeWhile cM)
  else FL (Src.iZ.find? fun t=>t.isPrefixOf (c::r)):=by
 unfold Src.firstT qa
 by_cases hd:digit c=true
 ·simp only[hd,A9]
 simp only[hd,A4]
 by_cases h39:c=39
 ·simp only[h39,A9]
  match r with
  |[]=>rfl
  |[_]=>rfl
  |x::y::r=>rfl
 ·simp only[h39,A4]
  rfl
theorem CU {α:Type}{p:α→Bool}{l:List α}{k:Nat}{x:α} (h:∀y∈l.take k,p y=false) (hx:l[k]? = some x) (hp:p x=true):l.find? p=some x:=by
 have hk:=(l0.1 hx).1
 rw[←G2 k l,List.find?_append,List.find?_eq_none.2 (fun y hy=>by rw[h y hy];simp)]
 have:l.drop k=x::l.drop (k+1):=by
  rw[y9 hk]
  congr 1
  exact E3 ((w8 hk).symm.trans hx)
 rw[this,List.find?_cons,hp]
 rfl
theorem tN {k v:Nat}{t:Str}:pH (.ok (k,t,v))=.tup [.agg [.d (.int .i64 (k:Nat)),.d (.str t),.d (.int .u32 (v:Nat)),.d (.int .i64 ((0:Nat):Int))],iv .i64 0]:=rfl
theorem tO {e:Nat}:pH (.err e)=.tup [.agg [.d (.int .i64 ((0:Nat):Int)),.d (.str []),.d (.int .u32 ((0:Nat):Int)),.d (.int .i64 ((0:Nat):Int))],iv .i64 (e:Nat)]:=rfl
variable {o:cO}
theorem yC (c:UInt8) (s:Str) (h0:s[0]? = some c) (hs:s.length≤1000000) (hd:digit c=true) {x:Src.R (Nat×Str×Nat)} (hx:(if 4294967295<fS (s.takeWhile digit) then .err 2 else .ok (2,s.takeWhile digit,fS (s.takeWhile digit)))=x) :
  bW Tryz.prog 3 o 124 [sv s] (· = pH x):=by
 refine hdG Tryz.func124 rfl [.cell 2 104,.tmp 3] fun b₀ β0 s0 w0 g=>?_
 have hD:=lz c
 rw[hd] at hD
 have hl:=B1 (G0 digit (l:=s)).length_le hs
 have hN:=Ar (s.takeWhile digit) a6 List.all_takeWhile
 rw[hx] at hN
 have hfr:=sq lz s a6
 generalize s.takeWhile digit=u at hN hfr hx
 simp only[go_sem,h0]
 refine gU rfl X6 ?_
 rintro _ rfl
 simp only[go_sem]
 refine gU rfl (by simp only[go_sem];exact hfr) ?_
 rintro _ rfl
 simp only[go_sem]
 refine gU rfl Zg ?_
 rintro _ rfl
 cases x with
 |ok y=>
   exact Wf
 |err e=>
   exact WE
theorem Au (s:Str) (h0:s[0]? = some 39):bW Tryz.prog 3 o 124 [sv s] (· = pH (pZ s)):=by
 refine hdG Tryz.func124 rfl [.cell 2 104,.tmp 3] fun b₀ β0 s0 w0 g=>?_
 have hD:=lz 39
 rw[show digit 39=false from rfl] at hD
 have hi:(((39:UInt8).toNat:Nat):Int)=39:=rfl
 have hB:=FJ s
 generalize pZ s=x at hB ⊢
 simp only[go_sem,h0]
 refine gU rfl X6 ?_
 rintro _ rfl
 simp only[go_sem,hi]
 refine gU rfl Zc ?_
 rintro _ rfl
 cases x with
 |ok y=>
   exact Wf
 |err e=>
   exact WE
theorem Av (ho:jM o) (c:UInt8) (s:Str) (h0:s[0]? = some c) (hs:s.length≤1000000) (hd:digit c=false) (h39:c≠39) (hl:letter c=true) :
  bW Tryz.prog 3 o 124 [sv s] (· = pH (qa (s.takeWhile cM))):=by
 refine hdG Tryz.func124 rfl [.cell 2 104,.tmp 3] fun b₀ β0 s0 w0 g=>?_
 have hD:=lz c
 rw[hd] at hD
 have hL:=nT c
 rw[hl] at hL
 have hi:¬((c.toNat:Nat):Int)=39:=jR (d:=39) h39
 have hfr:=sq vq s a6
 have hN:=FK ho (s.takeWhile cM)
 generalize s.takeWhile cM=u at hN hfr ⊢
 generalize qa u=x at hN ⊢
 simp only[go_sem,h0]
 refine gU rfl X6 ?_
 rintro _ rfl
 simp only[go_sem,hi]
 refine gU rfl Yv ?_
 rintro _ rfl
 simp only[go_sem]
 refine gU rfl (by simp only[go_sem];exact hfr) ?_
 rintro _ rfl
 simp only[go_sem]
 refine cQ rfl Zg ?_
 rintro _ rfl
 cases x with
 |ok y=>
   exact Wf
 |err e=>
   exact WE
theorem Aw (ho:jM o) (c:UInt8) (s:Str) (h0:s[0]? = some c) (hd:digit c=false) (h39:c≠39) (hl:letter c=false) {x:Option Str} (hx:Src.iZ.find? (fun t=>t.isPrefixOf s)=x) :
  bW Tryz.prog 3 o 124 [sv s] (· = pH (FL x)):=by
 refine hdG Tryz.func124 rfl [.cell 2 104,.tmp 3] fun b₀ β0 s0 w0 g=>?_
 have hD:=lz c
 rw[hd] at hD
 have hL:=nT c
 rw[hl] at hL
 have hi:¬((c.toNat:Nat):Int)=39:=jR (d:=39) h39
 have hsl:Src.iZ.length=24:=rfl
 simp only[go_sem,h0]
 refine gU rfl X6 ?_
 rintro _ rfl
 simp only[go_sem,hi]
 refine gU rfl Yv ?_
 rintro _ rfl
 simp only[go_sem]
 refine ai (fun n st=>∃k:Nat,n+k=24∧st.f 0=sv s∧st.f 31=iv .i64 k∧st.f 2=.one (.ptr 2 (nxC 105 (g 2)) 0)∧st.gen 2=nxC 105 (g 2)∧st.obj 2=some [.d (.int .i64 0),.d (.str []),.d (.int .u32 0),.d (.int .i64 0)]∧∀t∈Src.iZ.take k,t.isPrefixOf s=false) 24 ?_ ?_
 ·refine⟨0,rfl,?_⟩
  simp only[go_sem]
  simp
 rintro n f g' ob ⟨k,hk,q0,q31,q2,g2,o2,hno⟩
 simp only at q0 q31 q2 g2 o2
 have hw:=ae (k:=k) a6
 by_cases hlt:k<24
 ·have hlti:(k:Int)<24:=a6
  obtain⟨t,ht⟩:=getq (l:=Src.iZ) (k:=k) a6
  have hP:=rC s t
  have hrow:∀w:World,rK 3 o w→∀(j:Nat) (x:D),([D.str t]:List D)[j]? = some x→w.cell? ⟨0,k*(Tt 9).size+j,none⟩=some (dV x):=fun w hw j x hx=>by
   match j,hx with
   |0,hx=>cases hx;rw[show k*(Tt 9).size+0=k from by show k*1+0=k;omega];exact(ho w hw).2 k t ht
  simp only[go_sem,q0,q31,hlti]
  refine qr aW (fun s β ds w h=>h.1.2) aU (n:=24) (e:=9) rfl rfl a8 (kd:=.i64) (i:=k) (by simp only[go_sem,q31]) hlt (cs:=[.str t]) (fun j x hx=>by match j,hx with|0,hx=>cases hx;rfl) hrow ?_
  simp only[go_sem,q0]
  refine gU rfl Yk ?_
  rintro _ rfl
  cases hp:t.isPrefixOf s
  ·simp only[go_sem,q31,hw]
   refine ac (n-1) a6 ⟨k+1,a6,?_⟩
   simp only[go_sem,q0,q2,g2,o2]
   rw[A8,ht]
   intro x hx
   rcases C8.1 hx with hx|hx
   ·exact hno x hx
   ·simp at hx;rw[hx];exact hp
  ·rw[CU (p:=fun t=>t.isPrefixOf s) hno ht hp] at hx
   subst hx
   simp only[go_sem,q31,hlti]
   refine qr aW (fun s β ds w h=>h.1.2) aU (n:=24) (e:=9) rfl rfl a8 (kd:=.i64) (i:=k) (by simp only[go_sem,q31]) hlt (cs:=[.str t]) (fun j x hx=>by match j,hx with|0,hx=>cases hx;rfl) hrow ?_
   simp only[go_sem,q2,g2,o2]
   exact⟨_,dC (k:=4) (v:=0) (e:=0),rfl⟩
 ·obtain rfl:k=24:=a6
  rw[l5 (by rw[hsl];decide)] at hno
  rw[List.find?_eq_none.2 (fun y hy=>by rw[hno y hy];simp)] at hx
  subst hx
  simp only[go_sem,q0,q31,q2,g2,o2,show ¬((24:Nat):Int)<24 by decide]
  exact V0
theorem IP (ho:jM o) (c:UInt8) (r:Str) (hs:(c::r).length≤1000000):bW Tryz.prog 3 o 124 [sv (c::r)] (· = pH (Src.firstT (c::r))):=by
 rw[gg]
 cases hd:digit c with
 |true=>rw[if_pos rfl];exact yC c (c::r) rfl hs hd rfl
 |false=>
   rw[if_neg a7]
   by_cases h39:c=39
   ·rw[if_pos h39];exact Au (c::r) (by rw[h39];rfl)
   ·rw[if_neg h39]
    cases hl:letter c with
    |true=>rw[if_pos rfl];exact Av ho c (c::r) rfl hs hd h39 hl
    |false=>rw[if_neg a7];exact Aw ho c (c::r) rfl hd h39 hl rfl
end
def cF (l:List Src.Tok):D:=.sl (l.map gK)
def IQ (r:List Src.Tok×Nat×Nat):AV:=.tup [.one (.d (cF r.1)),iv .i64 (r.2.1:Nat),iv .i64 (r.2.2:Nat)]
def qb (l:List Src.Tok):List C:=l.flatMap fun t=>(gK t).map .d
theorem qM:∀l:List Src.Tok,(qb l).length=l.length*4
 |[]=>rfl
 |t::l=>by have ih:=qM l;unfold qb at ih ⊢;rw[C9,j5,ih];simp only[gK,j4,j6,j7];omega
theorem tP (l:List Src.Tok) (t:Src.Tok):qb (l++[t])=qb l++(gK t).map .d:=by unfold qb;rw[N0];simp
def pi (l:List Src.Tok):Src.R (List Src.Tok)×Nat→Src.R (List Src.Tok)×Nat
 |(.ok l',p)=>(.ok (l++l'),p)
 |(.err e,p)=>(.err e,p)
theorem yD (x:Src.R (List Src.Tok)×Nat):pi [] x=x:=by obtain⟨a,b⟩:=x;cases a <;> rfl
theorem vt (l:List Src.Tok) (t:Src.Tok) (x:Src.R (List Src.Tok)×Nat):pi (l++[t]) x=pi l (pi [t] x):=by obtain⟨a,b⟩:=x;cases a <;> simp[pi]
theorem cU {p:UInt8→Bool}:∀s:Str,s.drop (s.takeWhile p).length=s.dropWhile p
 |[]=>rfl
 |c::s=>by
   by_cases h:p c=true
   ·rw[F0,if_pos h,Q2,if_pos h,j6,J8,cU s]
   ·rw[F0,if_neg h,Q2,if_neg h];rfl
theorem tQ {s t:Str}{k v:Nat} (h:Src.firstT s=.ok (k,t,v)):0<t.length∧t.length≤s.length∧v<4294967296∧k≤4:=by
 have hall:(Src.iZ.all fun t=>decide (0<t.length))=true:=a8
 cases s with
 |nil=>unfold Src.firstT at h;cases h
 |cons c r=>
   rw[gg] at h
   have hsub:∀p:UInt8→Bool,((c::r).takeWhile p).length≤(c::r).length:=fun p=>(G0 p).length_le
   split at h
   ·rename_i hd
    split at h
    ·cases h
    ·cases h
     refine⟨?_,hsub _,a6,a8⟩
     rw[F0,if_pos hd];simp
   ·split at h
    ·unfold pZ at h
     split at h
     ·rename_i x y r' hx
      split at h
      ·cases h
       rename_i hh
       rw[hx]
       refine⟨a7,a7,?_,a8⟩
       omega
      ·cases h
     ·cases h
    ·split at h
     ·rename_i hl
      unfold qa at h
      split at h
      ·cases h
      ·have h0:0<((c::r).takeWhile cM).length:=by
        rw[F0,if_pos (by unfold cM;rw[hl];rfl)];simp
       split at h <;> cases h <;> exact⟨h0,hsub _,a8,a8⟩
     ·cases hf:Src.iZ.find? fun t=>t.isPrefixOf (c::r) with
      |some t'=>
        rw[hf] at h
        cases h
        have hm:=R3 hf
        have hp:=List.find?_some hf
        refine⟨L7 (x6.1 hall _ hm),?_,a8,a8⟩
        exact(I0.1 hp).length_le
      |none=>rw[hf] at h;cases h
theorem tR {s:Str}{e:Nat} (hs:s≠[]) (h:Src.firstT s=.err e):e=2∨e=3:=by
 cases s with
 |nil=>exact absurd rfl hs
 |cons c r=>
   rw[gg] at h
   split at h
   ·split at h
    ·cases h;exact .inl rfl
    ·cases h
   ·split at h
    ·unfold pZ at h
     split at h
     ·split at h
      ·cases h
      ·cases h;exact .inr rfl
     ·cases h;exact .inr rfl
    ·split at h
     ·unfold qa at h
      split at h
      ·cases h;exact .inl rfl
      ·split at h <;> cases h
     ·cases hf:Src.iZ.find? fun t=>t.isPrefixOf (c::r) with
      |some t'=>rw[hf] at h;cases h
      |none=>rw[hf] at h;cases h;exact .inr rfl
theorem Rh {o:cO} (ho:jM o) (s:Str):bW Tryz.prog 3 o 72 [sv s] (· = IQ (Src.qN s)):=by
 refine hdG Tryz.func72 rfl [.tmp 2,.tmp 3,.tmp 4] fun b₀ β0 s0 w0 g=>?_
 unfold Src.qN
 by_cases hbig:20000<s.length
 ·exact Xg
 have hbi:¬(20000:Int)<(s.length:Int):=a6
 rw[if_neg hbig]
 simp only[go_sem,hbi]
 refine ai (fun n st=>∃(k:Nat) (m:Nat) (l:List Src.Tok),n+k=s.length∧(s.drop k).length<m∧Src.ie (s.length+1) 0 s=pi l (Src.ie m k (s.drop k))∧l.length≤k∧st.f 0=sv s∧st.f 6=iv .i64 k∧
  ((l=[]∧st.f 5=.one (.d .nsl))∨(l≠[]∧st.f 5=.one (.osl 61 (st.gen 61) 4 0 l.length)∧st.obj 61=some (qb l)))) s.length ?_ ?_
 ·refine⟨0,s.length+1,[],a6,a7,by rw[yD];rfl,a7,?_⟩
  simp only[go_sem]
  exact .inl trivial
 rintro n f g' ob ⟨k,m,l,hk,hm,hL,hlk,q0,q6,q5⟩
 simp only at q0 q6 q5
 have hk0:(0:Int)≤(k:Int):=a6
 by_cases hlt:k<s.length
 case neg=>
  have hlti:¬(k:Int)<(s.length:Int):=a6
  rw[A1 a6] at hL
  obtain⟨m',rfl⟩:∃m',m=m'+1:=⟨m-1,a6⟩
  rw[hL]
  have hend:∀k,pi l (Src.ie (m'+1) k [])=(.ok l,0):=fun k=>by unfold Src.ie pi;simp
  exact U5
 have hlti:(k:Int)<(s.length:Int):=a6
 obtain⟨c,hc⟩:=getq hlt
 have hdrop:s.drop k=c::s.drop (k+1):=by
  rw[y9 hlt]
  congr 1
  exact E3 ((w8 hlt).symm.trans hc)
 obtain⟨m',rfl⟩:∃m',m=m'+1:=⟨m-1,a6⟩
 have hml:(s.drop (k+1)).length<m':=by rw[hdrop] at hm;simp only[j6] at hm;omega
 have hw:=ae (k:=k) a6
 have hgo:∀k r,Src.ie (m'+1) k (c::r)=if c=32∨c=9∨c=10 then Src.ie m' (k+1) r
   else if c=47∧r.head? = some 47 then Src.ie m' (k+((c::r).takeWhile (· != 10)).length) ((c::r).dropWhile (· != 10))
   else match Src.firstT (c::r) with
    |.err e=>(.err e,k)
    |.ok (kd,t,v)=>pi [⟨kd,t,v,k⟩] (Src.ie m' (k+t.length) ((c::r).drop t.length)):=by
  intro k r
  conv=>lhs;unfold Src.ie
  split
  ·rfl
  ·split
   ·rfl
   ·split
    ·rename_i h;rw[h]
    ·rename_i kd t v h
     rw[h]
     simp only
     rcases Src.ie m' (k+t.length) ((c::r).drop t.length) with⟨a,b⟩
     cases a <;> rfl
 rw[hdrop,hgo] at hL
 by_cases hbl:c=32∨c=9∨c=10
 ·rw[if_pos hbl] at hL
  have hstep:(((c.toNat:Nat):Int)=32)∨(¬((c.toNat:Nat):Int)=32∧((c.toNat:Nat):Int)=9)∨(¬((c.toNat:Nat):Int)=32∧¬((c.toNat:Nat):Int)=9∧((c.toNat:Nat):Int)=10):=by
   rcases hbl with rfl|rfl|rfl
   ·exact .inl rfl
   ·exact .inr (.inl ⟨a8,rfl⟩)
   ·exact .inr (.inr ⟨a8,a8,rfl⟩)
  rcases hstep with h1|⟨h1,h2⟩|⟨h1,h2,h3⟩
  case' inl=>simp only[go_sem,q0,q6,hlti,hc,hk0,h1,hw]
  case' inr.inl=>simp only[go_sem,q0,q6,hlti,hc,hk0,h1,h2,hw]
  case' inr.inr=>simp only[go_sem,q0,q6,hlti,hc,hk0,h1,h2,h3,hw]
  all_goals
   refine ac (n-1) a6 ⟨k+1,m',l,a6,hml,hL,a6,?_⟩
   simp only[go_sem,q0]
   exact q5
 rw[if_neg hbl] at hL
 have b1:¬((c.toNat:Nat):Int)=32:=jR (d:=32) fun h=>hbl (.inl h)
 have b2:¬((c.toNat:Nat):Int)=9:=jR (d:=9) fun h=>hbl (.inr (.inl h))
 have b3:¬((c.toNat:Nat):Int)=10:=jR (d:=10) fun h=>hbl (.inr (.inr h))
 have hsl:List.drop k (List.take s.length s)=s.drop k:=by rw[F3]
 have hdl:(s.drop k).length≤1000000:=by rw[A2];omega
 simp only[go_sem,q0,q6,hlti,hc,hk0,b1,b2,b3,hsl]
 refine⟨a6,a6,?_⟩
 refine gU rfl (by simp only[go_sem];exact rC (s.drop k) [47,47]) ?_
 rintro _ rfl
 cases hp:([47,47]:Str).isPrefixOf (s.drop k)
 case true=>
  obtain⟨r2,hr2⟩:=I0.1 hp
  have hcm:c=47∧(s.drop (k+1)).head? = some 47:=by
   rw[hdrop] at hr2
   simp only[A0,y8,L1] at hr2
   exact⟨hr2.1.symm,by rw[←hr2.2];rfl⟩
  rw[if_pos hcm,←hdrop,←cU,J0] at hL
  have htl:((s.drop k).takeWhile (· != 10)).length≤(s.drop k).length:=(G0 _).length_le
  have ht1:1≤((s.drop k).takeWhile (· != 10)).length:=by
   rw[hdrop,F0,if_pos (by rw[hcm.1];rfl)];simp
  have hdl2:(s.drop k).length=s.length-k:=A2
  generalize hT:((s.drop k).takeWhile (· != 10)).length=T at hL htl ht1
  have hw2:IntKind.i64.wrap ((k:Int)+(T:Int))=((k+T:Nat):Int):=by rw[wrap_i64] <;> omega
  simp only[go_sem,q0,q6,hk0,hsl]
  refine⟨a6,a6,?_⟩
  refine gU rfl (by simp only[go_sem];exact sq IM (s.drop k) a6) ?_
  rintro _ rfl
  simp only[go_sem,hT,hw2,q6]
  refine ac (n-T) a6 ⟨k+T,m',l,a6,by rw[A2];rw[A2] at hml;omega,hL,a6,?_⟩
  simp only[go_sem,q0]
  exact q5
 have hncm:¬(c=47∧(s.drop (k+1)).head? = some 47):=by
  rintro⟨h1,h2⟩
  rw[hdrop,h1] at hp
  cases hr:s.drop (k+1) with
  |nil=>rw[hr] at h2;cases h2
  |cons x y=>
    rw[hr] at h2 hp
    simp only[List.head?_cons,s7] at h2
    rw[h2] at hp
    simp[List.isPrefixOf] at hp
 rw[if_neg hncm] at hL
 have hF:=IP ho c (s.drop (k+1)) (by rw[←hdrop];exact hdl)
 rw[←hdrop] at hF hL
 simp only[go_sem,q0,q6,hk0,hsl]
 refine⟨a6,a6,?_⟩
 refine cQ rfl Zb ?_
 rintro _ rfl
 cases hf:Src.firstT (s.drop k) with
 |err e=>
   have he:e=2∨e=3:=tR (by rw[hdrop];simp) hf
   have hei:¬(e:Int)=0:=a6
   rw[hf] at hL
   simp only[pi] at hL
   rw[hL]
   unfold pH gv gK
   simp only[go_sem,l6,v7,hei,q6]
   exact VR
 |ok x=>
   obtain⟨kd,t,v⟩:=x
   obtain⟨t1,t2,t3,t4⟩:=tQ hf
   rw[hf] at hL
   simp only at hL
   rw[J0,←vt] at hL
   have hdl2:(s.drop k).length=s.length-k:=A2
   have hw2:IntKind.i64.wrap ((k:Int)+(t.length:Int))=((k+t.length:Nat):Int):=by rw[wrap_i64] <;> omega
   unfold pH gv gK
   rcases q5 with⟨rfl,q5⟩|⟨hne,q5,o5⟩
   ·simp only[go_sem,l6,v7,q6,q5,aD,hw2]
    refine⟨⟨a8,a8⟩,?_⟩
    refine ac (n-t.length) a6 ⟨k+t.length,m',[⟨kd,t,v,k⟩],a6,by rw[A2];rw[A2] at hml;omega,hL,by simp;omega,?_⟩
    simp only[go_sem,q0]
    first|exact .inr rfl|exact .inr ⟨by simp,rfl⟩|exact .inr ⟨by simp,rfl,rfl⟩
   ·have htc:=qM l
    simp only[go_sem,l6,v7,q6,q5,o5,aD,hw2]
    refine⟨a6,⟨a8,a6⟩,?_⟩
    refine ac (n-t.length) a6 ⟨k+t.length,m',l++[⟨kd,t,v,k⟩],a6,by rw[A2];rw[A2] at hml;omega,hL,by simp;omega,?_⟩
    simp only[go_sem,q0]
    refine .inr ⟨a7,a7,?_⟩
    rw[tP,l5 a6]
    rfl
end
end Go.Proofs.YthnomjfdcidgbaaGreatDoor
namespace Go.Src
section
open Go.Asm (Str)
section
inductive PR (α:Type) where
 |ok (a:α) (n:Nat)
 |no (n:Nat)
def PR.bind {α β:Type} (x:PR α) (f:α→Nat→PR β):PR β:=match x with|.ok a n=>f a n|.no n=>.no n
variable {n:Nat}{α β:Type}{f:α→Nat→PR β}{p:PR α}
@[simp] theorem PR.bind_ok{a:α}:(PR.ok a n).bind f=f a n:=rfl
@[simp] theorem PR.bind_no:(PR.no n:PR α).bind f=.no n:=rfl
section
variable (ts:List Tok)
def bO (n:Nat):Nat:=match ts[n]? with|some t=>t.kind|none=>0
def ah (n:Nat):Str:=match ts[n]? with|some t=>if t.kind=3∨t.kind=4 then t.text else []|none=>[]
def takeN (k:Nat) (n:Nat):PR Tok:=match ts[n]? with|some t=>if t.kind=k then .ok t (n+1) else .no n|none=>.no n
def bC:List Str→Nat→PR Unit
 |[],n=>.ok () n
 |s::l,n=>if ah ts n=s then bC l (n+1) else .no n
mutual
def cA:Nat→Nat→Nat→PR Ex
 |0,_,n=>.no n
 |k+1,least,n=>(eq k n).bind fun left n=>fc k least left n
def fc:Nat→Nat→Ex→Nat→PR Ex
 |0,_,_,n=>.no n
 |k+1,least,left,n=>
   if (ew (ah ts n)).2.2<least then .ok left n
   else(cA k ((ew (ah ts n)).2.2+1) (n+1)).bind fun right m=>fc k least (.mk (ew (ah ts n)).1 (ew (ah ts n)).2.1 0 [] [left,right]) m
def eq:Nat→Nat→PR Ex
 |0,n=>.no n
 |k+1,n=>
   if bO ts n=2 then(takeN ts 2 n).bind fun t n=>.ok (.mk 1 0 t.num [] []) n
   else if ah ts n=[103,101,116] then(bC ts [bL,bB] (n+1)).bind fun _ n=>.ok (.mk 5 0 0 [] []) n
   else if ah ts n=bL then(cA k 1 (n+1)).bind fun e n=>(bC ts [bB] n).bind fun _ n=>.ok e n
   else if ah ts n=[33] then(eq k (n+1)).bind fun e n=>.ok (.mk 7 0 0 [] [e]) n
   else(takeN ts 1 n).bind fun t n=>
    if ah ts n=[91] then(cA k 1 (n+1)).bind fun e n=>(bC ts [[93]] n).bind fun _ n=>.ok (.mk 3 0 0 t.text [e]) n
    else if ah ts n=bL then(eL k (n+1)).bind fun l n=>.ok (.mk 4 0 0 t.text l) n
    else .ok (.mk 2 0 0 t.text []) n
def eL:Nat→Nat→PR (List Ex)
 |0,n=>.no n
 |k+1,n=>
   if ah ts n=bB then .ok [] (n+1)
   else(cA k 1 n).bind fun e n=>fd k [e] n
def fd:Nat→List Ex→Nat→PR (List Ex)
 |0,_,n=>.no n
 |k+1,l,n=>
   if ah ts n=ja then(cA k 1 (n+1)).bind fun e n=>fd k (l++[e]) n
   else(bC ts [bB] n).bind fun _ n=>.ok l n
end
def fJ (k n:Nat):PR (List Ex):=(bC ts [bL] n).bind fun _ n=>(cA ts k 1 n).bind fun e n=>(bC ts [bB] n).bind fun _ n=>.ok [e] n
def eT (k n:Nat):PR Stm:=
 (takeN ts 1 n).bind fun t n=>
   (if ah ts n=[61] then(cA ts k 1 (n+1)).bind fun e n=>.ok (Stm.mk 1 t.text [e] [] []) n
    else if ah ts n=[91] then(cA ts k 1 (n+1)).bind fun i n=>(bC ts [[93],[61]] n).bind fun _ n=>(cA ts k 1 n).bind fun e n=>.ok (Stm.mk 2 t.text [i,e] [] []) n
    else if ah ts n=bL then(eL ts k (n+1)).bind fun l n=>.ok (Stm.mk 6 t.text l [] []) n
    else .no n).bind fun s n=>(bC ts [cp] n).bind fun _ n=>.ok s n
mutual
def gy:Nat→Nat→PR Stm
 |0,n=>.no n
 |k+1,n=>
   if ah ts n=[112,117,116] then(fJ ts k (n+1)).bind fun e n=>(bC ts [cp] n).bind fun _ n=>.ok (.mk 3 [] e [] []) n
   else if ah ts n=[114,101,116,117,114,110] then
    (if ah ts (n+1)=cp then .ok (.mk 7 [] [] [] []) (n+2)
     else(cA ts k 1 (n+1)).bind fun e n=>(bC ts [cp] n).bind fun _ n=>.ok (.mk 7 [] [e] [] []) n)
   else if ah ts n=[105,102] then
    (fJ ts k (n+1)).bind fun e n=>(fN k n).bind fun th n=>
      if ah ts n=[101,108,115,101] then(fN k (n+1)).bind fun el n=>.ok (.mk 4 [] e th el) n
      else .ok (.mk 4 [] e th []) n
   else if ah ts n=[119,104,105,108,101] then
    (fJ ts k (n+1)).bind fun e n=>(fN k n).bind fun th n=>.ok (.mk 5 [] e th []) n
   else eT ts k n
def fN:Nat→Nat→PR (List Stm)
 |0,n=>.no n
 |k+1,n=>(bC ts [[123]] n).bind fun _ n=>cB k [] n
def cB:Nat→List Stm→Nat→PR (List Stm)
 |0,_,n=>.no n
 |k+1,l,n=>
   if ah ts n=[125] then .ok l (n+1)
   else(gy k n).bind fun s n=>cB k (l++[s]) n
end
def cI:Nat→List Str→Nat→PR (List Str)
 |0,_,n=>.no n
 |k+1,l,n=>if ah ts n=ja then(takeN ts 1 (n+1)).bind fun t n=>cI k (l++[t.text]) n else .ok l n
def dr (k n:Nat):PR (List Str):=(takeN ts 1 n).bind fun t n=>cI ts k [t.text] n
def cD:Nat→List Str→Nat→PR (List Str)
 |0,_,n=>.no n
 |k+1,l,n=>if ah ts n=[118,97,114] then(dr ts k (n+1)).bind fun m n=>(bC ts [cp] n).bind fun _ n=>cD k (l++m) n else .ok l n
def ky (k n:Nat):PR Fn:=
 (bC ts [[102,117,110,99]] n).bind fun _ n=>(takeN ts 1 n).bind fun t n=>(bC ts [bL] n).bind fun _ n=>
   (if bO ts n=1 then dr ts k n else .ok [] n).bind fun ps n=>(bC ts [bB] n).bind fun _ n=>
     (bC ts [[123]] (if ah ts n=[119,111,114,100] then n+1 else n)).bind fun _ m=>(cD ts k [] m).bind fun ls m=>
       (cB ts k [] m).bind fun b m=>.ok ⟨t.text,ps,ls,decide (ah ts n=[119,111,114,100]),b⟩ m
def jh:Nat→List Str→List (Str×Int)→Nat→PR (List Str×List (Str×Int))
 |0,_,_,n=>.no n
 |k+1,vs,ars,n=>
   if ah ts n=[118,97,114] then(dr ts k (n+1)).bind fun m n=>(bC ts [cp] n).bind fun _ n=>jh k (vs++m) ars n
   else if ah ts n=[97,114,114,97,121] then
    (takeN ts 1 (n+1)).bind fun t n=>(bC ts [[91]] n).bind fun _ n=>(takeN ts 2 n).bind fun z n=>(bC ts [[93]] n).bind fun _ n=>(bC ts [cp] n).bind fun _ n=>jh k vs (ars++[(t.text,(z.num:Int))]) n
   else .ok (vs,ars) n
def ji:Nat→List Fn→Nat→PR (List Fn)
 |0,_,n=>.no n
 |k+1,l,n=>if n<ts.length then(ky ts k n).bind fun f n=>ji k (l++[f]) n else .ok l n
def jI (k n:Nat):PR Prog:=
 (jh ts k [] [] n).bind fun h n=>(ky ts k n).bind fun f n=>(ji ts k [f] n).bind fun fs n=>.ok ⟨h.1,h.2,fs⟩ n
end
def PR.Fwd {α:Type} (n:Nat) (p:PR α):Prop:=∀a m,p=.ok a m→n<m
def PR.FwdE {α:Type} (n:Nat) (p:PR α):Prop:=∀a m,p=.ok a m→n≤m
theorem PR.bind_fwd (h:p.Fwd n) (h':∀a m,(f a m).FwdE m):(p.bind f).Fwd n:=by
 intro b m hb
 cases p with
 |ok a k=>exact E7 (h a k rfl) (h' a k b m hb)
 |no k=>cases hb
theorem PR.bind_fwdE (h:p.FwdE n) (h':∀a m,(f a m).FwdE m):(p.bind f).FwdE n:=by
 intro b m hb
 cases p with
 |ok a k=>exact B1 (h a k rfl) (h' a k b m hb)
 |no k=>cases hb
theorem PR.Fwd.le {α:Type}{p:PR α} (h:p.Fwd n):p.FwdE n:=fun a m e=>Q6 (h a m e)
theorem PR.Fwd.of_succ {α:Type}{p:PR α} (h:p.FwdE (n+1)):p.Fwd n:=fun a m e=>h a m e
theorem PR.fwdE_ok {α:Type}{n m:Nat}{a:α} (h:n≤m):(PR.ok a m).FwdE n:=fun b k e=>by cases e;exact h
theorem PR.fwd_no {α:Type}{n m:Nat}:(PR.no m:PR α).Fwd n:=fun _ _ e=>by cases e
section
variable {ts:List Tok}
theorem cn {k n:Nat}:(takeN ts k n).Fwd n:=by
 intro a m h
 unfold takeN at h
 split at h
 ·split at h
  ·cases h;omega
  ·cases h
 ·cases h
theorem aI:∀{l:List Str}{n:Nat},(bC ts l n).FwdE n
 |[],n=>PR.fwdE_ok (j8 _)
 |s::l,n=>by
   unfold bC
   split
   ·exact fun a m e=>by have:=aI (l:=l) (n:=n+1) a m e;omega
   ·exact PR.fwd_no.le
mutual
theorem bI:∀(k least n:Nat),(cA ts k least n).Fwd n
 |0,_,_=>by unfold cA;exact PR.fwd_no
 |k+1,least,n=>by
   unfold cA
   exact PR.bind_fwd (qQ k n) fun a m=>qP k least a m
theorem qP:∀(k least:Nat) (left:Ex) (n:Nat),(fc ts k least left n).FwdE n
 |0,_,_,_=>by unfold fc;exact PR.fwd_no.le
 |k+1,least,left,n=>by
   unfold fc
   split
   ·exact PR.fwdE_ok (j8 _)
   ·exact fun a m e=>by have:=PR.bind_fwdE (bI k _ (n+1)).le (fun b q=>qP k least _ q) a m e;omega
theorem qQ:∀(k n:Nat),(eq ts k n).Fwd n
 |0,_=>by unfold eq;exact PR.fwd_no
 |k+1,n=>by
   unfold eq
   split
   ·exact PR.bind_fwd cn fun a m=>PR.fwdE_ok (j8 _)
   split
   ·exact PR.Fwd.of_succ (PR.bind_fwdE aI fun a m=>PR.fwdE_ok (j8 _))
   split
   ·exact PR.Fwd.of_succ (PR.bind_fwdE (bI k 1 (n+1)).le fun a m=>PR.bind_fwdE aI fun b q=>PR.fwdE_ok (j8 _))
   split
   ·exact PR.Fwd.of_succ (PR.bind_fwdE (qQ k (n+1)).le fun a m=>PR.fwdE_ok (j8 _))
   refine PR.bind_fwd cn fun a m=>?_
   split
   ·exact(PR.Fwd.of_succ (PR.bind_fwdE (bI k 1 (m+1)).le fun a m=>PR.bind_fwdE aI fun b q=>PR.fwdE_ok (j8 _))).le
   split
   ·exact(PR.Fwd.of_succ (PR.bind_fwdE (vy k (m+1)).le fun a m=>PR.fwdE_ok (j8 _))).le
   ·exact PR.fwdE_ok (j8 _)
theorem vy:∀(k n:Nat),(eL ts k n).Fwd n
 |0,_=>by unfold eL;exact PR.fwd_no
 |k+1,n=>by
   unfold eL
   split
   ·exact PR.Fwd.of_succ (PR.fwdE_ok (j8 _))
   ·exact PR.bind_fwd (bI k 1 n) fun a m=>vz k [a] m
theorem vz:∀(k:Nat) (l:List Ex) (n:Nat),(fd ts k l n).FwdE n
 |0,_,_=>by unfold fd;exact PR.fwd_no.le
 |k+1,l,n=>by
   unfold fd
   split
   ·exact(PR.Fwd.of_succ (PR.bind_fwdE (bI k 1 (n+1)).le fun a m=>vz k (l++[a]) m)).le
   ·exact PR.bind_fwdE aI fun b q=>PR.fwdE_ok (j8 _)
end
theorem js {k n:Nat}:(fJ ts k n).FwdE n:=PR.bind_fwdE aI fun _ m=>PR.bind_fwdE (bI k 1 m).le fun _ m=>PR.bind_fwdE aI fun _ _=>PR.fwdE_ok (j8 _)
theorem AD {k n:Nat}:(eT ts k n).Fwd n:=by
 unfold eT
 refine PR.bind_fwd cn fun t m=>PR.bind_fwdE ?_ fun s q=>PR.bind_fwdE aI fun _ _=>PR.fwdE_ok (j8 _)
 split
 ·exact(PR.Fwd.of_succ (PR.bind_fwdE (bI k 1 (m+1)).le fun _ _=>PR.fwdE_ok (j8 _))).le
 split
 ·exact(PR.Fwd.of_succ (PR.bind_fwdE (bI k 1 (m+1)).le fun _ _=>PR.bind_fwdE aI fun _ q=>PR.bind_fwdE (bI k 1 q).le fun _ _=>PR.fwdE_ok (j8 _))).le
 split
 ·exact(PR.Fwd.of_succ (PR.bind_fwdE (vy k (m+1)).le fun _ _=>PR.fwdE_ok (j8 _))).le
 ·exact PR.fwd_no.le
mutual
theorem nW:∀(k n:Nat),(gy ts k n).Fwd n
 |0,_=>by unfold gy;exact PR.fwd_no
 |k+1,n=>by
   unfold gy
   split
   ·exact PR.Fwd.of_succ (PR.bind_fwdE js fun _ _=>PR.bind_fwdE aI fun _ _=>PR.fwdE_ok (j8 _))
   split
   ·split
    ·exact fun a m e=>by cases e;omega
    ·exact PR.Fwd.of_succ (PR.bind_fwdE (bI k 1 (n+1)).le fun _ _=>PR.bind_fwdE aI fun _ _=>PR.fwdE_ok (j8 _))
   split
   ·refine PR.Fwd.of_succ (PR.bind_fwdE js fun _ m=>PR.bind_fwdE (lB k m) fun _ q=>?_)
    split
    ·exact(PR.Fwd.of_succ (PR.bind_fwdE (lB k (q+1)) fun _ _=>PR.fwdE_ok (j8 _))).le
    ·exact PR.fwdE_ok (j8 _)
   split
   ·exact PR.Fwd.of_succ (PR.bind_fwdE js fun _ m=>PR.bind_fwdE (lB k m) fun _ _=>PR.fwdE_ok (j8 _))
   ·exact AD
theorem lB:∀(k n:Nat),(fN ts k n).FwdE n
 |0,_=>by unfold fN;exact PR.fwd_no.le
 |k+1,n=>by
   unfold fN
   exact PR.bind_fwdE aI fun _ m=>(mj k [] m).le
theorem mj:∀(k:Nat) (l:List Stm) (n:Nat),(cB ts k l n).Fwd n
 |0,_,_=>by unfold cB;exact PR.fwd_no
 |k+1,l,n=>by
   unfold cB
   split
   ·exact PR.Fwd.of_succ (PR.fwdE_ok (j8 _))
   ·exact PR.bind_fwd (nW k n) fun a m=>(mj k _ m).le
end
theorem qf:∀{k:Nat}{l:List Str}{n:Nat},(cI ts k l n).FwdE n
 |0,_,_=>by unfold cI;exact PR.fwd_no.le
 |k+1,l,n=>by
   unfold cI
   split
   ·exact(PR.Fwd.of_succ (PR.bind_fwdE cn.le fun _ _=>qf)).le
   ·exact PR.fwdE_ok (j8 _)
theorem jt {k n:Nat}:(dr ts k n).Fwd n:=PR.bind_fwd cn fun _ _=>qf
theorem kI:∀{k:Nat}{l:List Str}{n:Nat},(cD ts k l n).FwdE n
 |0,_,_=>by unfold cD;exact PR.fwd_no.le
 |k+1,l,n=>by
   unfold cD
   split
   ·exact(PR.Fwd.of_succ (PR.bind_fwdE jt.le fun _ _=>PR.bind_fwdE aI fun _ _=>kI)).le
   ·exact PR.fwdE_ok (j8 _)
theorem Gj {k n:Nat}:(ky ts k n).Fwd n:=by
 unfold ky
 intro a m h
 cases hm:bC ts [[102,117,110,99]] n with
 |no _=>rw[hm] at h;cases h
 |ok u q=>
   rw[hm] at h
   have h1:=aI (ts:=ts) (l:=[[102,117,110,99]]) (n:=n) u q hm
   have h2:=PR.bind_fwd (p:=takeN ts 1 q) (n:=q) cn (fun t m=>PR.bind_fwdE (β:=Fn) (f:=fun _ n=>
    (if bO ts n=1 then dr ts k n else .ok [] n).bind fun ps n=>(bC ts [bB] n).bind fun _ n=>
    (bC ts [[123]] (if ah ts n=[119,111,114,100] then n+1 else n)).bind fun _ m=>(cD ts k [] m).bind fun ls m=>
      (cB ts k [] m).bind fun b m=>.ok ⟨t.text,ps,ls,decide (ah ts n=[119,111,114,100]),b⟩ m) (aI (l:=[bL])) fun _ x=>PR.bind_fwdE (by split;exact jt.le;exact PR.fwdE_ok (j8 _)) fun ps y=>PR.bind_fwdE aI fun _ z=>by
      have h3:∀v,z≤v→((bC ts [[123]] v).bind fun _ m=>(cD ts k [] m).bind fun ls m=>(cB ts k [] m).bind fun b m=>(PR.ok (Fn.mk t.text ps ls (decide (ah ts z=[119,111,114,100])) b) m)).FwdE z:=fun v hv a m e=>by
       have:=PR.bind_fwdE (p:=bC ts [[123]] v) aI (fun _ m=>PR.bind_fwdE (kI (k:=k) (l:=[])) fun ls m=>PR.bind_fwdE (mj k [] m).le fun b m=>PR.fwdE_ok (a:=Fn.mk t.text ps ls (decide (ah ts z=[119,111,114,100])) b) (j8 m)) a m e
       omega
      apply h3
      split <;> omega) a m h
   omega
end
end
end
end Go.Src

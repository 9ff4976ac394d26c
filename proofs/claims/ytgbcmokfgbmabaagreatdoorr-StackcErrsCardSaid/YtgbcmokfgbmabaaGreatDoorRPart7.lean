/- A part of the proof; no conditions. -/
import Derived.Test.YtgbcmokfgbmabaaGreatDoorRPart6
set_option linter.unusedSimpArgs false
set_option linter.unusedVariables false
set_option maxHeartbeats 64000000
set_option maxRecDepth 100000
namespace Go.Proofs.YtgbcmokfgbmabaaGreatDoorR
section
attribute [local congr] Go.Am.ite_cc
open Go Go.Am Go.Asm
section
def LL:Option Str→Src.R (Nat×Str×Nat)
 |some t=>.ok (4,t,0)
 |none=>.err 3
theorem nb (c:UInt8) (r:Str):Src.firstT (c::r)=if digit c=true then(if 4294967295<hY ((c::r).takeWhile digit) then .err 2 else .ok (2,(c::r).takeWhile digit,hY ((c::r).takeWhile digit)))
  else if c=39 then rG (c::r) else if letter c=true then rH ((c::r).takeWhile dS)
  else LL (Src.Ob.find? fun t=>t.isPrefixOf (c::r)):=by
 unfold Src.firstT rH
 by_cases hd:digit c=true
 ·simp only[hd,B6]
 simp only[hd,A9]
 by_cases h39:c=39
 ·simp only[h39,B6]
  match r with
  |[]=>rfl
  |[_]=>rfl
  |x::y::r=>rfl
 ·simp only[h39,A9]
  rfl
theorem DB {α:Type}{p:α→Bool}{l:List α}{k:Nat}{x:α} (h:∀y∈l.take k,p y=false) (hx:l[k]? = some x) (hp:p x=true):l.find? p=some x:=by
 have hk:=(l4.1 hx).1
 rw[←F6 k l,List.find?_append,List.find?_eq_none.2 (fun y hy=>by rw[h y hy];simp)]
 have:l.drop k=x::l.drop (k+1):=by
  rw[A5 hk]
  congr 1
  exact E7 ((w9 hk).symm.trans hx)
 rw[this,List.find?_cons,hp]
 rfl
theorem tW {k v:Nat}{t:Str}:pu (.ok (k,t,v))=.tup [.agg [.d (.int .i64 (k:Nat)),.d (.str t),.d (.int .u32 (v:Nat)),.d (.int .i64 ((0:Nat):Int))],iv .i64 0]:=rfl
theorem tX {e:Nat}:pu (.err e)=.tup [.agg [.d (.int .i64 ((0:Nat):Int)),.d (.str []),.d (.int .u32 ((0:Nat):Int)),.d (.int .i64 ((0:Nat):Int))],iv .i64 (e:Nat)]:=rfl
variable {o:cn}
theorem yM (c:UInt8) (s:Str) (h0:s[0]? = some c) (hs:s.length≤1000000) (hd:digit c=true) {x:Src.R (Nat×Str×Nat)} (hx:(if 4294967295<hY (s.takeWhile digit) then .err 2 else .ok (2,s.takeWhile digit,hY (s.takeWhile digit)))=x) :
  bI Tryz.prog 3 o 188 [sv s] (· = pu x):=by
 refine hdG Tryz.func188 rfl [.cell 2 164,.tmp 3] fun b₀ β0 s0 w0 g=>?_
 have hD:=kR c
 rw[hd] at hD
 have hl:=B5 (P1 digit (l:=s)).length_le hs
 have hN:=AH (s.takeWhile digit) a6 List.all_takeWhile
 rw[hx] at hN
 have hfr:=sx kR s a6
 generalize s.takeWhile digit=u at hN hfr hx
 simp only[go_sem,h0]
 refine gZ rfl (by simp only[go_sem];exact hD) ?_
 rintro _ rfl
 simp only[go_sem]
 refine gZ rfl (by simp only[go_sem];exact hfr) ?_
 rintro _ rfl
 simp only[go_sem]
 refine gZ rfl (by simp only[go_sem];exact hN) ?_
 rintro _ rfl
 cases x with
 |ok y=>
   exact W9
 |err e=>
   exact Xw
theorem AI (s:Str) (h0:s[0]? = some 39):bI Tryz.prog 3 o 188 [sv s] (· = pu (rG s)):=by
 refine hdG Tryz.func188 rfl [.cell 2 164,.tmp 3] fun b₀ β0 s0 w0 g=>?_
 have hD:=kR 39
 rw[show digit 39=false from rfl] at hD
 have hi:(((39:UInt8).toNat:Nat):Int)=39:=rfl
 have hB:=GM s
 generalize rG s=x at hB ⊢
 simp only[go_sem,h0]
 refine gZ rfl (by simp only[go_sem];exact hD) ?_
 rintro _ rfl
 simp only[go_sem,hi]
 refine gZ rfl (by simp only[go_sem];exact hB) ?_
 rintro _ rfl
 cases x with
 |ok y=>
   exact W9
 |err e=>
   exact Xw
theorem AJ (ho:ji o) (c:UInt8) (s:Str) (h0:s[0]? = some c) (hs:s.length≤1000000) (hd:digit c=false) (h39:c≠39) (hl:letter c=true) :
  bI Tryz.prog 3 o 188 [sv s] (· = pu (rH (s.takeWhile dS))):=by
 refine hdG Tryz.func188 rfl [.cell 2 164,.tmp 3] fun b₀ β0 s0 w0 g=>?_
 have hD:=kR c
 rw[hd] at hD
 have hL:=nC c
 rw[hl] at hL
 have hi:¬((c.toNat:Nat):Int)=39:=nO (d:=39) h39
 have hfr:=sx vH s a6
 have hN:=GN ho (s.takeWhile dS)
 generalize s.takeWhile dS=u at hN hfr ⊢
 generalize rH u=x at hN ⊢
 simp only[go_sem,h0]
 refine gZ rfl (by simp only[go_sem];exact hD) ?_
 rintro _ rfl
 simp only[go_sem,hi]
 refine gZ rfl (by simp only[go_sem];exact hL) ?_
 rintro _ rfl
 simp only[go_sem]
 refine gZ rfl (by simp only[go_sem];exact hfr) ?_
 rintro _ rfl
 simp only[go_sem]
 refine ck rfl (by simp only[go_sem];exact hN) ?_
 rintro _ rfl
 cases x with
 |ok y=>
   exact W9
 |err e=>
   exact Xw
theorem AK (ho:ji o) (c:UInt8) (s:Str) (h0:s[0]? = some c) (hd:digit c=false) (h39:c≠39) (hl:letter c=false) {x:Option Str} (hx:Src.Ob.find? (fun t=>t.isPrefixOf s)=x) :
  bI Tryz.prog 3 o 188 [sv s] (· = pu (LL x)):=by
 refine hdG Tryz.func188 rfl [.cell 2 164,.tmp 3] fun b₀ β0 s0 w0 g=>?_
 have hD:=kR c
 rw[hd] at hD
 have hL:=nC c
 rw[hl] at hL
 have hi:¬((c.toNat:Nat):Int)=39:=nO (d:=39) h39
 have hsl:Src.Ob.length=24:=rfl
 simp only[go_sem,h0]
 refine gZ rfl (by simp only[go_sem];exact hD) ?_
 rintro _ rfl
 simp only[go_sem,hi]
 refine gZ rfl (by simp only[go_sem];exact hL) ?_
 rintro _ rfl
 simp only[go_sem]
 refine ak (fun n st=>∃k:Nat,n+k=24∧st.f 0=sv s∧st.f 31=iv .i64 k∧st.f 2=.one (.ptr 2 (nxC 165 (g 2)) 0)∧st.gen 2=nxC 165 (g 2)∧st.obj 2=some [.d (.int .i64 0),.d (.str []),.d (.int .u32 0),.d (.int .i64 0)]∧∀t∈Src.Ob.take k,t.isPrefixOf s=false) 24 ?_ ?_
 ·refine⟨0,rfl,?_⟩
  simp only[go_sem]
  simp
 rintro n f g' ob ⟨k,hk,q0,q31,q2,g2,o2,hno⟩
 simp only at q0 q31 q2 g2 o2
 have hw:=ab (k:=k) a6
 by_cases hlt:k<24
 ·have hlti:(k:Int)<24:=a6
  obtain⟨t,ht⟩:=getq (l:=Src.Ob) (k:=k) a6
  have hP:=rF s t
  have hrow:∀w:World,rP 3 o w→∀(j:Nat) (x:D),([D.str t]:List D)[j]? = some x→w.cell? ⟨0,k*(Tt 9).size+j,none⟩=some (dV x):=fun w hw j x hx=>by
   match j,hx with
   |0,hx=>cases hx;rw[show k*(Tt 9).size+0=k from by show k*1+0=k;omega];exact(ho w hw).2 k t ht
  simp only[go_sem,q0,q31,hlti]
  refine qh aN (fun s β ds w h=>h.1.2) aP (n:=24) (e:=9) rfl rfl a8 (kd:=.i64) (i:=k) (by simp only[go_sem,q31]) hlt (cs:=[.str t]) (fun j x hx=>by match j,hx with|0,hx=>cases hx;rfl) hrow ?_
  simp only[go_sem,q0]
  refine gZ rfl (by simp only[go_sem];exact hP) ?_
  rintro _ rfl
  cases hp:t.isPrefixOf s
  ·simp only[go_sem,q31,hw]
   refine ah (n-1) a6 ⟨k+1,a6,?_⟩
   simp only[go_sem,q0,q2,g2,o2]
   rw[B4,ht]
   intro x hx
   rcases B9.1 hx with hx|hx
   ·exact hno x hx
   ·simp at hx;rw[hx];exact hp
  ·rw[DB (p:=fun t=>t.isPrefixOf s) hno ht hp] at hx
   subst hx
   simp only[go_sem,q31,hlti]
   refine qh aN (fun s β ds w h=>h.1.2) aP (n:=24) (e:=9) rfl rfl a8 (kd:=.i64) (i:=k) (by simp only[go_sem,q31]) hlt (cs:=[.str t]) (fun j x hx=>by match j,hx with|0,hx=>cases hx;rfl) hrow ?_
   simp only[go_sem,q2,g2,o2]
   exact⟨_,db (k:=4) (v:=0) (e:=0),rfl⟩
 ·obtain rfl:k=24:=a6
  rw[l7 (by rw[hsl];decide)] at hno
  rw[List.find?_eq_none.2 (fun y hy=>by rw[hno y hy];simp)] at hx
  subst hx
  simp only[go_sem,q0,q31,q2,g2,o2,show ¬((24:Nat):Int)<24 by decide]
  exact WW
theorem Kh (ho:ji o) (c:UInt8) (r:Str) (hs:(c::r).length≤1000000):bI Tryz.prog 3 o 188 [sv (c::r)] (· = pu (Src.firstT (c::r))):=by
 rw[nb]
 cases hd:digit c with
 |true=>rw[if_pos rfl];exact yM c (c::r) rfl hs hd rfl
 |false=>
   rw[if_neg a7]
   by_cases h39:c=39
   ·rw[if_pos h39];exact AI (c::r) (by rw[h39];rfl)
   ·rw[if_neg h39]
    cases hl:letter c with
    |true=>rw[if_pos rfl];exact AJ ho c (c::r) rfl hs hd h39 hl
    |false=>rw[if_neg a7];exact AK ho c (c::r) rfl hd h39 hl rfl
end
def iD (l:List Src.Tok):D:=.sl (l.map lJ)
def Sd (r:List Src.Tok×Nat×Nat):AV:=.tup [.one (.d (iD r.1)),iv .i64 (r.2.1:Nat),iv .i64 (r.2.2:Nat)]
def tY (l:List Src.Tok):List C:=l.flatMap fun t=>(lJ t).map .d
theorem vI:∀l:List Src.Tok,(tY l).length=l.length*4
 |[]=>rfl
 |t::l=>by have ih:=vI l;unfold tY at ih ⊢;rw[D3,j5,ih];simp only[lJ,j4,j6,j7];omega
theorem AL (l:List Src.Tok) (t:Src.Tok):tY (l++[t])=tY l++(lJ t).map .d:=by unfold tY;rw[N6];simp
def uM (l:List Src.Tok):Src.R (List Src.Tok)×Nat→Src.R (List Src.Tok)×Nat
 |(.ok l',p)=>(.ok (l++l'),p)
 |(.err e,p)=>(.err e,p)
theorem GO (x:Src.R (List Src.Tok)×Nat):uM [] x=x:=by obtain⟨a,b⟩:=x;cases a <;> rfl
theorem DC (l:List Src.Tok) (t:Src.Tok) (x:Src.R (List Src.Tok)×Nat):uM (l++[t]) x=uM l (uM [t] x):=by obtain⟨a,b⟩:=x;cases a <;> simp[uM]
theorem nc {p:UInt8→Bool}:∀s:Str,s.drop (s.takeWhile p).length=s.dropWhile p
 |[]=>rfl
 |c::s=>by
   by_cases h:p c=true
   ·rw[J4,if_pos h,List.dropWhile_cons,if_pos h,j6,List.drop_succ_cons,nc s]
   ·rw[J4,if_neg h,List.dropWhile_cons,if_neg h];rfl
theorem AM {s t:Str}{k v:Nat} (h:Src.firstT s=.ok (k,t,v)):0<t.length∧t.length≤s.length∧v<4294967296∧k≤4:=by
 have hall:(Src.Ob.all fun t=>decide (0<t.length))=true:=a8
 cases s with
 |nil=>unfold Src.firstT at h;cases h
 |cons c r=>
   rw[nb] at h
   have hsub:∀p:UInt8→Bool,((c::r).takeWhile p).length≤(c::r).length:=fun p=>(P1 p).length_le
   split at h
   ·rename_i hd
    split at h
    ·cases h
    ·cases h
     refine⟨?_,hsub _,a6,a8⟩
     rw[J4,if_pos hd];simp
   ·split at h
    ·unfold rG at h
     split at h
     ·rename_i x y r' hx
      split at h
      ·cases h
       rename_i hh
       rw[hx]
       refine⟨a7,a7,?_,a8⟩
       omega
      ·cases h
     ·cases h
    ·split at h
     ·rename_i hl
      unfold rH at h
      split at h
      ·cases h
      ·have h0:0<((c::r).takeWhile dS).length:=by
        rw[J4,if_pos (by unfold dS;rw[hl];rfl)];simp
       split at h <;> cases h <;> exact⟨h0,hsub _,a8,a8⟩
     ·cases hf:Src.Ob.find? fun t=>t.isPrefixOf (c::r) with
      |some t'=>
        rw[hf] at h
        cases h
        have hm:=S7 hf
        have hp:=List.find?_some hf
        refine⟨M9 (x7.1 hall _ hm),?_,a8,a8⟩
        exact(N3.1 hp).length_le
      |none=>rw[hf] at h;cases h
theorem AN {s:Str}{e:Nat} (hs:s≠[]) (h:Src.firstT s=.err e):e=2∨e=3:=by
 cases s with
 |nil=>exact absurd rfl hs
 |cons c r=>
   rw[nb] at h
   split at h
   ·split at h
    ·cases h;exact .inl rfl
    ·cases h
   ·split at h
    ·unfold rG at h
     split at h
     ·split at h
      ·cases h
      ·cases h;exact .inr rfl
     ·cases h;exact .inr rfl
    ·split at h
     ·unfold rH at h
      split at h
      ·cases h;exact .inl rfl
      ·split at h <;> cases h
     ·cases hf:Src.Ob.find? fun t=>t.isPrefixOf (c::r) with
      |some t'=>rw[hf] at h;cases h
      |none=>rw[hf] at h;cases h;exact .inr rfl
theorem Se {o:cn} (ho:ji o) (s:Str):bI Tryz.prog 3 o 115 [sv s] (· = Sd (Src.qR s)):=by
 refine hdG Tryz.func115 rfl [.tmp 2,.tmp 3,.tmp 4] fun b₀ β0 s0 w0 g=>?_
 unfold Src.qR
 by_cases hbig:20000<s.length
 ·have hbi:(20000:Int)<(s.length:Int):=a6
  rw[if_pos hbig]
  simp only[go_sem,hbi]
  exact Xd
 have hbi:¬(20000:Int)<(s.length:Int):=a6
 rw[if_neg hbig]
 simp only[go_sem,hbi]
 refine ak (fun n st=>∃(k:Nat) (m:Nat) (l:List Src.Tok),n+k=s.length∧(s.drop k).length<m∧Src.rI (s.length+1) 0 s=uM l (Src.rI m k (s.drop k))∧l.length≤k∧st.f 0=sv s∧st.f 6=iv .i64 k∧
  ((l=[]∧st.f 5=.one (.d .nsl))∨(l≠[]∧st.f 5=.one (.osl 61 (st.gen 61) 4 0 l.length)∧st.obj 61=some (tY l)))) s.length ?_ ?_
 ·refine⟨0,s.length+1,[],a6,a7,by rw[GO];rfl,a7,?_⟩
  simp only[go_sem]
  exact .inl trivial
 rintro n f g' ob ⟨k,m,l,hk,hm,hL,hlk,q0,q6,q5⟩
 simp only at q0 q6 q5
 have hk0:(0:Int)≤(k:Int):=a6
 by_cases hlt:k<s.length
 case neg=>
  have hlti:¬(k:Int)<(s.length:Int):=a6
  rw[x6 a6] at hL
  obtain⟨m',rfl⟩:∃m',m=m'+1:=⟨m-1,a6⟩
  rw[hL]
  have hend:∀k,uM l (Src.rI (m'+1) k [])=(.ok l,0):=fun k=>by unfold Src.rI uM;simp
  rw[hend]
  rcases q5 with⟨rfl,q5⟩|⟨hne,q5,o5⟩
  ·simp only[go_sem,q0,q6,q5,hlti]
   exact Xd
  ·simp only[go_sem,q0,q6,q5,hlti]
   exact⟨_,⟨_,⟨_,_,rfl,Kf (dm rfl l lJ (by simp[upd,o5,tY]) rfl (fun t _ x hx=>by simp only[lJ,z6,A4,E3] at hx;rcases hx with rfl|rfl|rfl|rfl <;> rfl) (fun _ _=>rfl) rfl),_,_,rfl,jb _,_,_,rfl,jb _,rfl⟩,rfl⟩,rfl⟩
 have hlti:(k:Int)<(s.length:Int):=a6
 obtain⟨c,hc⟩:=getq hlt
 have hdrop:s.drop k=c::s.drop (k+1):=by
  rw[A5 hlt]
  congr 1
  exact E7 ((w9 hlt).symm.trans hc)
 obtain⟨m',rfl⟩:∃m',m=m'+1:=⟨m-1,a6⟩
 have hml:(s.drop (k+1)).length<m':=by rw[hdrop] at hm;simp only[j6] at hm;omega
 have hw:=ab (k:=k) a6
 have hgo:∀k r,Src.rI (m'+1) k (c::r)=if c=32∨c=9∨c=10 then Src.rI m' (k+1) r
   else if c=47∧r.head? = some 47 then Src.rI m' (k+((c::r).takeWhile (· != 10)).length) ((c::r).dropWhile (· != 10))
   else match Src.firstT (c::r) with
    |.err e=>(.err e,k)
    |.ok (kd,t,v)=>uM [⟨kd,t,v,k⟩] (Src.rI m' (k+t.length) ((c::r).drop t.length)):=by
  intro k r
  conv=>lhs;unfold Src.rI
  split
  ·rfl
  ·split
   ·rfl
   ·split
    ·rename_i h;rw[h]
    ·rename_i kd t v h
     rw[h]
     simp only
     rcases Src.rI m' (k+t.length) ((c::r).drop t.length) with⟨a,b⟩
     cases a <;> rfl
 rw[hdrop,hgo] at hL
 by_cases hbl:c=32∨c=9∨c=10
 ·rw[if_pos hbl] at hL
  have hstep:(((c.toNat:Nat):Int)=32)∨(¬((c.toNat:Nat):Int)=32∧((c.toNat:Nat):Int)=9)∨(¬((c.toNat:Nat):Int)=32∧¬((c.toNat:Nat):Int)=9∧((c.toNat:Nat):Int)=10):=by
   rcases hbl with rfl|rfl|rfl
   ·exact .inl rfl
   ·exact .inr (.inl ⟨a8,rfl⟩)
   ·exact .inr (.inr ⟨a8,a8,rfl⟩)
  rcases hstep with h1|⟨h1,h2⟩|⟨h1,h2,h3⟩
  case' inl=>simp only[go_sem,q0,q6,hlti,hc,hk0,h1,hw]
  case' inr.inl=>simp only[go_sem,q0,q6,hlti,hc,hk0,h1,h2,hw]
  case' inr.inr=>simp only[go_sem,q0,q6,hlti,hc,hk0,h1,h2,h3,hw]
  all_goals
   refine ah (n-1) a6 ⟨k+1,m',l,a6,hml,hL,a6,?_⟩
   simp only[go_sem,q0]
   exact q5
 rw[if_neg hbl] at hL
 have b1:¬((c.toNat:Nat):Int)=32:=nO (d:=32) fun h=>hbl (.inl h)
 have b2:¬((c.toNat:Nat):Int)=9:=nO (d:=9) fun h=>hbl (.inr (.inl h))
 have b3:¬((c.toNat:Nat):Int)=10:=nO (d:=10) fun h=>hbl (.inr (.inr h))
 have hsl:List.drop k (List.take s.length s)=s.drop k:=by rw[G1]
 have hdl:(s.drop k).length≤1000000:=by rw[E0];omega
 simp only[go_sem,q0,q6,hlti,hc,hk0,b1,b2,b3,hsl]
 refine⟨a6,a6,?_⟩
 refine gZ rfl (by simp only[go_sem];exact rF (s.drop k) [47,47]) ?_
 rintro _ rfl
 cases hp:([47,47]:Str).isPrefixOf (s.drop k)
 case true=>
  obtain⟨r2,hr2⟩:=N3.1 hp
  have hcm:c=47∧(s.drop (k+1)).head? = some 47:=by
   rw[hdrop] at hr2
   simp only[A2,z8,Q0] at hr2
   exact⟨hr2.1.symm,by rw[←hr2.2];rfl⟩
  rw[if_pos hcm,←hdrop,←nc,R4] at hL
  have htl:((s.drop k).takeWhile (· != 10)).length≤(s.drop k).length:=(P1 _).length_le
  have ht1:1≤((s.drop k).takeWhile (· != 10)).length:=by
   rw[hdrop,J4,if_pos (by rw[hcm.1];rfl)];simp
  have hdl2:(s.drop k).length=s.length-k:=E0
  generalize hT:((s.drop k).takeWhile (· != 10)).length=T at hL htl ht1
  have hw2:IntKind.i64.wrap ((k:Int)+(T:Int))=((k+T:Nat):Int):=by rw[wrap_i64] <;> omega
  simp only[go_sem,q0,q6,hk0,hsl]
  refine⟨a6,a6,?_⟩
  refine gZ rfl (by simp only[go_sem];exact sx Ke (s.drop k) a6) ?_
  rintro _ rfl
  simp only[go_sem,hT,hw2,q6]
  refine ah (n-T) a6 ⟨k+T,m',l,a6,by rw[E0];rw[E0] at hml;omega,hL,a6,?_⟩
  simp only[go_sem,q0]
  exact q5
 have hncm:¬(c=47∧(s.drop (k+1)).head? = some 47):=by
  rintro⟨h1,h2⟩
  rw[hdrop,h1] at hp
  cases hr:s.drop (k+1) with
  |nil=>rw[hr] at h2;cases h2
  |cons x y=>
    rw[hr] at h2 hp
    simp only[List.head?_cons,s9] at h2
    rw[h2] at hp
    simp[List.isPrefixOf] at hp
 rw[if_neg hncm] at hL
 have hF:=Kh ho c (s.drop (k+1)) (by rw[←hdrop];exact hdl)
 rw[←hdrop] at hF hL
 simp only[go_sem,q0,q6,hk0,hsl]
 refine⟨a6,a6,?_⟩
 refine ck rfl (by simp only[go_sem];exact hF) ?_
 rintro _ rfl
 cases hf:Src.firstT (s.drop k) with
 |err e=>
   have he:e=2∨e=3:=AN (by rw[hdrop];simp) hf
   have hei:¬(e:Int)=0:=a6
   rw[hf] at hL
   simp only[uM] at hL
   rw[hL]
   unfold pu nH lJ
   simp only[go_sem,l5,v8,hei,q6]
   exact Xd
 |ok x=>
   obtain⟨kd,t,v⟩:=x
   obtain⟨t1,t2,t3,t4⟩:=AM hf
   rw[hf] at hL
   simp only at hL
   rw[R4,←DC] at hL
   have hdl2:(s.drop k).length=s.length-k:=E0
   have hw2:IntKind.i64.wrap ((k:Int)+(t.length:Int))=((k+t.length:Nat):Int):=by rw[wrap_i64] <;> omega
   unfold pu nH lJ
   rcases q5 with⟨rfl,q5⟩|⟨hne,q5,o5⟩
   ·simp only[go_sem,l5,v8,q6,q5,aH,hw2]
    refine⟨⟨a8,a8⟩,?_⟩
    refine ah (n-t.length) a6 ⟨k+t.length,m',[⟨kd,t,v,k⟩],a6,by rw[E0];rw[E0] at hml;omega,hL,by simp;omega,?_⟩
    simp only[go_sem,q0]
    first|exact .inr rfl|exact .inr ⟨by simp,rfl⟩|exact .inr ⟨by simp,rfl,rfl⟩
   ·have htc:=vI l
    simp only[go_sem,l5,v8,q6,q5,o5,aH,hw2]
    refine⟨a6,⟨a8,a6⟩,?_⟩
    refine ah (n-t.length) a6 ⟨k+t.length,m',l++[⟨kd,t,v,k⟩],a6,by rw[E0];rw[E0] at hml;omega,hL,by simp;omega,?_⟩
    simp only[go_sem,q0]
    refine .inr ⟨a7,a7,?_⟩
    rw[AL,l7 a6]
    rfl
end
end Go.Proofs.YtgbcmokfgbmabaaGreatDoorR
namespace Go.Src
section
open Go.Asm (Str)
section
inductive PR (α:Type) where
 |ok (a:α) (n:Nat)
 |no (n:Nat)
def PR.bind {α β:Type} (x:PR α) (f:α→Nat→PR β):PR β:=match x with|.ok a n=>f a n|.no n=>.no n
variable {n:Nat}{α β:Type}{f:α→Nat→PR β}{p:PR α}
@[simp] theorem PR.bind_ok{a:α}:(PR.ok a n).bind f=f a n:=rfl
@[simp] theorem PR.bind_no:(PR.no n:PR α).bind f=.no n:=rfl
section
variable (ts:List Tok)
def dC (n:Nat):Nat:=match ts[n]? with|some t=>t.kind|none=>0
def ay (n:Nat):Str:=match ts[n]? with|some t=>if t.kind=3∨t.kind=4 then t.text else []|none=>[]
def takeN (k:Nat) (n:Nat):PR Tok:=match ts[n]? with|some t=>if t.kind=k then .ok t (n+1) else .no n|none=>.no n
def bE:List Str→Nat→PR Unit
 |[],n=>.ok () n
 |s::l,n=>if ay ts n=s then bE l (n+1) else .no n
mutual
def cL:Nat→Nat→Nat→PR Ex
 |0,_,n=>.no n
 |k+1,least,n=>(eT k n).bind fun left n=>gX k least left n
def gX:Nat→Nat→Ex→Nat→PR Ex
 |0,_,_,n=>.no n
 |k+1,least,left,n=>
   if (vL (ay ts n)).2.2<least then .ok left n
   else(cL k ((vL (ay ts n)).2.2+1) (n+1)).bind fun right m=>gX k least (.mk (vL (ay ts n)).1 (vL (ay ts n)).2.1 0 [] [left,right]) m
def eT:Nat→Nat→PR Ex
 |0,n=>.no n
 |k+1,n=>
   if dC ts n=2 then(takeN ts 2 n).bind fun t n=>.ok (.mk 1 0 t.num [] []) n
   else if ay ts n=[103,101,116] then(bE ts [kl,iN] (n+1)).bind fun _ n=>.ok (.mk 5 0 0 [] []) n
   else if ay ts n=kl then(cL k 1 (n+1)).bind fun e n=>(bE ts [iN] n).bind fun _ n=>.ok e n
   else if ay ts n=[33] then(eT k (n+1)).bind fun e n=>.ok (.mk 7 0 0 [] [e]) n
   else(takeN ts 1 n).bind fun t n=>
    if ay ts n=[91] then(cL k 1 (n+1)).bind fun e n=>(bE ts [[93]] n).bind fun _ n=>.ok (.mk 3 0 0 t.text [e]) n
    else if ay ts n=kl then(fG k (n+1)).bind fun l n=>.ok (.mk 4 0 0 t.text l) n
    else .ok (.mk 2 0 0 t.text []) n
def fG:Nat→Nat→PR (List Ex)
 |0,n=>.no n
 |k+1,n=>
   if ay ts n=iN then .ok [] (n+1)
   else(cL k 1 n).bind fun e n=>gY k [e] n
def gY:Nat→List Ex→Nat→PR (List Ex)
 |0,_,n=>.no n
 |k+1,l,n=>
   if ay ts n=wZ then(cL k 1 (n+1)).bind fun e n=>gY k (l++[e]) n
   else(bE ts [iN] n).bind fun _ n=>.ok l n
end
def jj (k n:Nat):PR (List Ex):=(bE ts [kl] n).bind fun _ n=>(cL ts k 1 n).bind fun e n=>(bE ts [iN] n).bind fun _ n=>.ok [e] n
def iO (k n:Nat):PR Stm:=
 (takeN ts 1 n).bind fun t n=>
   (if ay ts n=[61] then(cL ts k 1 (n+1)).bind fun e n=>.ok (Stm.mk 1 t.text [e] [] []) n
    else if ay ts n=[91] then(cL ts k 1 (n+1)).bind fun i n=>(bE ts [[93],[61]] n).bind fun _ n=>(cL ts k 1 n).bind fun e n=>.ok (Stm.mk 2 t.text [i,e] [] []) n
    else if ay ts n=kl then(fG ts k (n+1)).bind fun l n=>.ok (Stm.mk 6 t.text l [] []) n
    else .no n).bind fun s n=>(bE ts [kn] n).bind fun _ n=>.ok s n
mutual
def jn:Nat→Nat→PR Stm
 |0,n=>.no n
 |k+1,n=>
   if ay ts n=[112,117,116] then(jj ts k (n+1)).bind fun e n=>(bE ts [kn] n).bind fun _ n=>.ok (.mk 3 [] e [] []) n
   else if ay ts n=[114,101,116,117,114,110] then
    (if ay ts (n+1)=kn then .ok (.mk 7 [] [] [] []) (n+2)
     else(cL ts k 1 (n+1)).bind fun e n=>(bE ts [kn] n).bind fun _ n=>.ok (.mk 7 [] [e] [] []) n)
   else if ay ts n=[105,102] then
    (jj ts k (n+1)).bind fun e n=>(iE k n).bind fun th n=>
      if ay ts n=[101,108,115,101] then(iE k (n+1)).bind fun el n=>.ok (.mk 4 [] e th el) n
      else .ok (.mk 4 [] e th []) n
   else if ay ts n=[119,104,105,108,101] then
    (jj ts k (n+1)).bind fun e n=>(iE k n).bind fun th n=>.ok (.mk 5 [] e th []) n
   else iO ts k n
def iE:Nat→Nat→PR (List Stm)
 |0,n=>.no n
 |k+1,n=>(bE ts [[123]] n).bind fun _ n=>cX k [] n
def cX:Nat→List Stm→Nat→PR (List Stm)
 |0,_,n=>.no n
 |k+1,l,n=>
   if ay ts n=[125] then .ok l (n+1)
   else(jn k n).bind fun s n=>cX k (l++[s]) n
end
def dZ:Nat→List Str→Nat→PR (List Str)
 |0,_,n=>.no n
 |k+1,l,n=>if ay ts n=wZ then(takeN ts 1 (n+1)).bind fun t n=>dZ k (l++[t.text]) n else .ok l n
def eg (k n:Nat):PR (List Str):=(takeN ts 1 n).bind fun t n=>dZ ts k [t.text] n
def dv:Nat→List Str→Nat→PR (List Str)
 |0,_,n=>.no n
 |k+1,l,n=>if ay ts n=[118,97,114] then(eg ts k (n+1)).bind fun m n=>(bE ts [kn] n).bind fun _ n=>dv k (l++m) n else .ok l n
def mh (k n:Nat):PR Fn:=
 (bE ts [[102,117,110,99]] n).bind fun _ n=>(takeN ts 1 n).bind fun t n=>(bE ts [kl] n).bind fun _ n=>
   (if dC ts n=1 then eg ts k n else .ok [] n).bind fun ps n=>(bE ts [iN] n).bind fun _ n=>
     (bE ts [[123]] (if ay ts n=[119,111,114,100] then n+1 else n)).bind fun _ m=>(dv ts k [] m).bind fun ls m=>
       (cX ts k [] m).bind fun b m=>.ok ⟨t.text,ps,ls,decide (ay ts n=[119,111,114,100]),b⟩ m
def lY:Nat→List Str→List (Str×Int)→Nat→PR (List Str×List (Str×Int))
 |0,_,_,n=>.no n
 |k+1,vs,ars,n=>
   if ay ts n=[118,97,114] then(eg ts k (n+1)).bind fun m n=>(bE ts [kn] n).bind fun _ n=>lY k (vs++m) ars n
   else if ay ts n=[97,114,114,97,121] then
    (takeN ts 1 (n+1)).bind fun t n=>(bE ts [[91]] n).bind fun _ n=>(takeN ts 2 n).bind fun z n=>(bE ts [[93]] n).bind fun _ n=>(bE ts [kn] n).bind fun _ n=>lY k vs (ars++[(t.text,(z.num:Int))]) n
   else .ok (vs,ars) n
def lZ:Nat→List Fn→Nat→PR (List Fn)
 |0,_,n=>.no n
 |k+1,l,n=>if n<ts.length then(mh ts k n).bind fun f n=>lZ k (l++[f]) n else .ok l n
def ma (k n:Nat):PR Prog:=
 (lY ts k [] [] n).bind fun h n=>(mh ts k n).bind fun f n=>(lZ ts k [f] n).bind fun fs n=>.ok ⟨h.1,h.2,fs⟩ n
end
def PR.Fwd {α:Type} (n:Nat) (p:PR α):Prop:=∀a m,p=.ok a m→n<m
def PR.FwdE {α:Type} (n:Nat) (p:PR α):Prop:=∀a m,p=.ok a m→n≤m
theorem PR.bind_fwd (h:p.Fwd n) (h':∀a m,(f a m).FwdE m):(p.bind f).Fwd n:=by
 intro b m hb
 cases p with
 |ok a k=>exact F1 (h a k rfl) (h' a k b m hb)
 |no k=>cases hb
theorem PR.bind_fwdE (h:p.FwdE n) (h':∀a m,(f a m).FwdE m):(p.bind f).FwdE n:=by
 intro b m hb
 cases p with
 |ok a k=>exact B5 (h a k rfl) (h' a k b m hb)
 |no k=>cases hb
theorem PR.Fwd.le {α:Type}{p:PR α} (h:p.Fwd n):p.FwdE n:=fun a m e=>R1 (h a m e)
theorem PR.Fwd.of_succ {α:Type}{p:PR α} (h:p.FwdE (n+1)):p.Fwd n:=fun a m e=>h a m e
theorem PR.fwdE_ok {α:Type}{n m:Nat}{a:α} (h:n≤m):(PR.ok a m).FwdE n:=fun b k e=>by cases e;exact h
theorem PR.fwd_no {α:Type}{n m:Nat}:(PR.no m:PR α).Fwd n:=fun _ _ e=>by cases e
section
variable {ts:List Tok}
theorem fC {k n:Nat}:(takeN ts k n).Fwd n:=by
 intro a m h
 unfold takeN at h
 split at h
 ·split at h
  ·cases h;omega
  ·cases h
 ·cases h
theorem cg:∀{l:List Str}{n:Nat},(bE ts l n).FwdE n
 |[],n=>PR.fwdE_ok (j8 _)
 |s::l,n=>by
   unfold bE
   split
   ·exact fun a m e=>by have:=cg (l:=l) (n:=n+1) a m e;omega
   ·exact PR.fwd_no.le
mutual
theorem er:∀(k least n:Nat),(cL ts k least n).Fwd n
 |0,_,_=>by unfold cL;exact PR.fwd_no
 |k+1,least,n=>by
   unfold cL
   exact PR.bind_fwd (vO k n) fun a m=>qT k least a m
theorem qT:∀(k least:Nat) (left:Ex) (n:Nat),(gX ts k least left n).FwdE n
 |0,_,_,_=>by unfold gX;exact PR.fwd_no.le
 |k+1,least,left,n=>by
   unfold gX
   split
   ·exact PR.fwdE_ok (j8 _)
   ·exact fun a m e=>by have:=PR.bind_fwdE (er k _ (n+1)).le (fun b q=>qT k least _ q) a m e;omega
theorem vO:∀(k n:Nat),(eT ts k n).Fwd n
 |0,_=>by unfold eT;exact PR.fwd_no
 |k+1,n=>by
   unfold eT
   split
   ·exact PR.bind_fwd fC fun a m=>PR.fwdE_ok (j8 _)
   split
   ·exact PR.Fwd.of_succ (PR.bind_fwdE cg fun a m=>PR.fwdE_ok (j8 _))
   split
   ·exact PR.Fwd.of_succ (PR.bind_fwdE (er k 1 (n+1)).le fun a m=>PR.bind_fwdE cg fun b q=>PR.fwdE_ok (j8 _))
   split
   ·exact PR.Fwd.of_succ (PR.bind_fwdE (vO k (n+1)).le fun a m=>PR.fwdE_ok (j8 _))
   refine PR.bind_fwd fC fun a m=>?_
   split
   ·exact(PR.Fwd.of_succ (PR.bind_fwdE (er k 1 (m+1)).le fun a m=>PR.bind_fwdE cg fun b q=>PR.fwdE_ok (j8 _))).le
   split
   ·exact(PR.Fwd.of_succ (PR.bind_fwdE (vP k (m+1)).le fun a m=>PR.fwdE_ok (j8 _))).le
   ·exact PR.fwdE_ok (j8 _)
theorem vP:∀(k n:Nat),(fG ts k n).Fwd n
 |0,_=>by unfold fG;exact PR.fwd_no
 |k+1,n=>by
   unfold fG
   split
   ·exact PR.Fwd.of_succ (PR.fwdE_ok (j8 _))
   ·exact PR.bind_fwd (er k 1 n) fun a m=>vQ k [a] m
theorem vQ:∀(k:Nat) (l:List Ex) (n:Nat),(gY ts k l n).FwdE n
 |0,_,_=>by unfold gY;exact PR.fwd_no.le
 |k+1,l,n=>by
   unfold gY
   split
   ·exact(PR.Fwd.of_succ (PR.bind_fwdE (er k 1 (n+1)).le fun a m=>vQ k (l++[a]) m)).le
   ·exact PR.bind_fwdE cg fun b q=>PR.fwdE_ok (j8 _)
end
theorem pb {k n:Nat}:(jj ts k n).FwdE n:=PR.bind_fwdE cg fun _ m=>PR.bind_fwdE (er k 1 m).le fun _ m=>PR.bind_fwdE cg fun _ _=>PR.fwdE_ok (j8 _)
theorem AU {k n:Nat}:(iO ts k n).Fwd n:=by
 unfold iO
 refine PR.bind_fwd fC fun t m=>PR.bind_fwdE ?_ fun s q=>PR.bind_fwdE cg fun _ _=>PR.fwdE_ok (j8 _)
 split
 ·exact(PR.Fwd.of_succ (PR.bind_fwdE (er k 1 (m+1)).le fun _ _=>PR.fwdE_ok (j8 _))).le
 split
 ·exact(PR.Fwd.of_succ (PR.bind_fwdE (er k 1 (m+1)).le fun _ _=>PR.bind_fwdE cg fun _ q=>PR.bind_fwdE (er k 1 q).le fun _ _=>PR.fwdE_ok (j8 _))).le
 split
 ·exact(PR.Fwd.of_succ (PR.bind_fwdE (vP k (m+1)).le fun _ _=>PR.fwdE_ok (j8 _))).le
 ·exact PR.fwd_no.le
mutual
theorem DL:∀(k n:Nat),(jn ts k n).Fwd n
 |0,_=>by unfold jn;exact PR.fwd_no
 |k+1,n=>by
   unfold jn
   split
   ·exact PR.Fwd.of_succ (PR.bind_fwdE pb fun _ _=>PR.bind_fwdE cg fun _ _=>PR.fwdE_ok (j8 _))
   split
   ·split
    ·exact fun a m e=>by cases e;omega
    ·exact PR.Fwd.of_succ (PR.bind_fwdE (er k 1 (n+1)).le fun _ _=>PR.bind_fwdE cg fun _ _=>PR.fwdE_ok (j8 _))
   split
   ·refine PR.Fwd.of_succ (PR.bind_fwdE pb fun _ m=>PR.bind_fwdE (qU k m) fun _ q=>?_)
    split
    ·exact(PR.Fwd.of_succ (PR.bind_fwdE (qU k (q+1)) fun _ _=>PR.fwdE_ok (j8 _))).le
    ·exact PR.fwdE_ok (j8 _)
   split
   ·exact PR.Fwd.of_succ (PR.bind_fwdE pb fun _ m=>PR.bind_fwdE (qU k m) fun _ _=>PR.fwdE_ok (j8 _))
   ·exact AU
theorem qU:∀(k n:Nat),(iE ts k n).FwdE n
 |0,_=>by unfold iE;exact PR.fwd_no.le
 |k+1,n=>by
   unfold iE
   exact PR.bind_fwdE cg fun _ m=>(pd k [] m).le
theorem pd:∀(k:Nat) (l:List Stm) (n:Nat),(cX ts k l n).Fwd n
 |0,_,_=>by unfold cX;exact PR.fwd_no
 |k+1,l,n=>by
   unfold cX
   split
   ·exact PR.Fwd.of_succ (PR.fwdE_ok (j8 _))
   ·exact PR.bind_fwd (DL k n) fun a m=>(pd k _ m).le
end
theorem pV:∀{k:Nat}{l:List Str}{n:Nat},(dZ ts k l n).FwdE n
 |0,_,_=>by unfold dZ;exact PR.fwd_no.le
 |k+1,l,n=>by
   unfold dZ
   split
   ·exact(PR.Fwd.of_succ (PR.bind_fwdE fC.le fun _ _=>pV)).le
   ·exact PR.fwdE_ok (j8 _)
theorem uj {k n:Nat}:(eg ts k n).Fwd n:=PR.bind_fwd fC fun _ _=>pV
theorem rK:∀{k:Nat}{l:List Str}{n:Nat},(dv ts k l n).FwdE n
 |0,_,_=>by unfold dv;exact PR.fwd_no.le
 |k+1,l,n=>by
   unfold dv
   split
   ·exact(PR.Fwd.of_succ (PR.bind_fwdE uj.le fun _ _=>PR.bind_fwdE cg fun _ _=>rK)).le
   ·exact PR.fwdE_ok (j8 _)
theorem Sl {k n:Nat}:(mh ts k n).Fwd n:=by
 unfold mh
 intro a m h
 cases hm:bE ts [[102,117,110,99]] n with
 |no _=>rw[hm] at h;cases h
 |ok u q=>
   rw[hm] at h
   have h1:=cg (ts:=ts) (l:=[[102,117,110,99]]) (n:=n) u q hm
   have h2:=PR.bind_fwd (p:=takeN ts 1 q) (n:=q) fC (fun t m=>PR.bind_fwdE (β:=Fn) (f:=fun _ n=>
    (if dC ts n=1 then eg ts k n else .ok [] n).bind fun ps n=>(bE ts [iN] n).bind fun _ n=>
    (bE ts [[123]] (if ay ts n=[119,111,114,100] then n+1 else n)).bind fun _ m=>(dv ts k [] m).bind fun ls m=>
      (cX ts k [] m).bind fun b m=>.ok ⟨t.text,ps,ls,decide (ay ts n=[119,111,114,100]),b⟩ m) (cg (l:=[kl])) fun _ x=>PR.bind_fwdE (by split;exact uj.le;exact PR.fwdE_ok (j8 _)) fun ps y=>PR.bind_fwdE cg fun _ z=>by
      have h3:∀v,z≤v→((bE ts [[123]] v).bind fun _ m=>(dv ts k [] m).bind fun ls m=>(cX ts k [] m).bind fun b m=>(PR.ok (Fn.mk t.text ps ls (decide (ay ts z=[119,111,114,100])) b) m)).FwdE z:=fun v hv a m e=>by
       have:=PR.bind_fwdE (p:=bE ts [[123]] v) cg (fun _ m=>PR.bind_fwdE (rK (k:=k) (l:=[])) fun ls m=>PR.bind_fwdE (pd k [] m).le fun b m=>PR.fwdE_ok (a:=Fn.mk t.text ps ls (decide (ay ts z=[119,111,114,100])) b) (j8 m)) a m e
       omega
      apply h3
      split <;> omega) a m h
   omega
end
end
end
end Go.Src

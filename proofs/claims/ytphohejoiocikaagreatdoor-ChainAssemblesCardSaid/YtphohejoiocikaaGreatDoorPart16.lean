/- A part of the proof; no conditions. -/
import Derived.Test.YtphohejoiocikaaGreatDoorPart15
set_option linter.unusedSimpArgs false
set_option linter.unusedVariables false
set_option maxHeartbeats 64000000
set_option maxRecDepth 100000
namespace Go.Src
section
open Go.Asm (Str)
section
theorem PR.bind_cong {α β:Type}{p p':PR α}{f f':α→Nat→PR β} (h:p=p') (h':∀a m,p'=.ok a m→f a m=f' a m):p.bind f=p'.bind f':=by
 subst h
 cases p with
 |ok a m=>exact h' a m rfl
 |no m=>rfl
theorem PR.bind_assoc {α β γ:Type}{p:PR α}{f:α→Nat→PR β}{g:β→Nat→PR γ}:(p.bind f).bind g=p.bind fun a n=>(f a n).bind g:=by cases p <;> rfl
theorem PR.bind_id {α:Type}{p:PR α}:p.bind PR.ok=p:=by cases p <;> rfl
variable {k n:Nat}
section
variable {ts:List Tok}
mutual
theorem bM:∀(k least n:Nat),0<least→4*(ts.length-n)+2≤k→ci ts k least n=ci ts (k+1) least n
 |0,_,_,_,h=>absurd h a6
 |k+1,least,n,h0,h=>by
   rw[ci.eq_2,ci.eq_2]
   refine PR.bind_cong (lD k n a6) fun a m e=>lC k least a m h0 ?_
   have:=mQ _ _ _ _ e
   omega
theorem lC:∀(k least:Nat) (left:Ex) (n:Nat),0<least→4*(ts.length-n)+1≤k→dv ts k least left n=dv ts (k+1) least left n
 |0,_,_,_,_,h=>absurd h a6
 |k+1,least,left,n,h0,h=>by
   rw[dv.eq_2,dv.eq_2]
   by_cases hs:(cG (ae ts n)).2.2<least
   ·rw[if_pos hs,if_pos hs]
   rw[if_neg hs,if_neg hs]
   have hn:n<ts.length:=by
    refine D0 fun hc=>hs ?_
    unfold ae
    rw[v8 a6]
    simpa[cG] using h0
   refine PR.bind_cong (bM k _ (n+1) a6 a6) fun a m e=>lC k least _ m h0 ?_
   have:=aU _ _ _ _ _ e
   omega
theorem lD:∀(k n:Nat),4*(ts.length-n)+1≤k→da ts k n=da ts (k+1) n
 |0,_,h=>absurd h a6
 |k+1,n,h=>by
   rw[da.eq_2,da.eq_2]
   split
   ·rfl
   split
   ·rfl
   split
   ·rename_i hp
    have:=aH hp Oq
    rw[bM k 1 (n+1) a6 a6]
   split
   ·rename_i hp
    have:=aH hp a7
    rw[lD k (n+1) a6]
   refine PR.bind_cong rfl fun t m e=>?_
   have hm:=bt _ _ e
   split
   ·rename_i hp
    have:=aH hp a7
    rw[bM k 1 (m+1) a6 a6]
   split
   ·rename_i hp
    have:=aH hp Oq
    rw[lE k (m+1) a6]
   ·rfl
theorem lE:∀(k n:Nat),4*(ts.length-n)+3≤k→dw ts k n=dw ts (k+1) n
 |0,_,h=>absurd h a6
 |k+1,n,h=>by
   rw[dw.eq_2,dw.eq_2]
   split
   ·rfl
   refine PR.bind_cong (bM k 1 n a6 a6) fun a m e=>lF k _ m ?_
   have:=aU _ _ _ _ _ e
   omega
theorem lF:∀(k:Nat) (l:List Ex) (n:Nat),4*(ts.length-n)+1≤k→dx ts k l n=dx ts (k+1) l n
 |0,_,_,h=>absurd h a6
 |k+1,l,n,h=>by
   rw[dx.eq_2,dx.eq_2]
   split
   ·rename_i hp
    have:=aH hp OX
    refine PR.bind_cong (bM k 1 (n+1) a6 a6) fun a m e=>lF k _ m ?_
    have:=aU _ _ _ _ _ e
    omega
   ·rfl
end
theorem kc (h:4*(ts.length-n)+2≤k):eA ts k n=eA ts (k+1) n:=by
 unfold eA
 refine PR.bind_cong rfl fun _ m e=>PR.bind_cong (bM k 1 m a6 ?_) fun _ _ _=>rfl
 have:=ay _ _ e
 omega
theorem wM (h:4*(ts.length-n)+3≤k):dD ts k n=dD ts (k+1) n:=by
 exact Mm
mutual
theorem sm:∀(k n:Nat),4*(ts.length-n)+1≤k→fh ts k n=fh ts (k+1) n
 |0,_,h=>absurd h a6
 |k+1,n,h=>by
   rw[fh.eq_2,fh.eq_2]
   split
   ·rename_i hp
    have:=aH hp a7
    rw[kc (k:=k) (n:=n+1) a6]
   split
   ·rename_i hp
    have:=aH hp a7
    split
    ·rfl
    ·rw[bM k 1 (n+1) a6 a6]
   split
   ·rename_i hp
    have:=aH hp a7
    refine PR.bind_cong (kc a6) fun _ m e=>?_
    have:=fC _ _ e
    have hlt:m≤n+1→False:=fun hle=>by
     unfold eA at e
     cases hb:bj ts [aW] (n+1) with
     |no _=>rw[hb] at e;cases e
     |ok u q=>
       rw[hb] at e
       have h1:=ay _ _ hb
       have h2:=PR.bind_fwdE (aU (k+1) 1 q).le (fun a m=>PR.bind_fwdE (ay (l:=[aT])) fun _ _=>PR.fwdE_ok (a:=[a]) (b9 _)) _ _ e
       have h3:=PR.bind_fwd (aU (k+1) 1 q) (fun a m=>PR.bind_fwdE (ay (l:=[aT])) fun _ _=>PR.fwdE_ok (a:=[a]) (b9 _)) _ _ e
       omega
    refine PR.bind_cong (ip k m a6) fun _ q e'=>?_
    have:=iB _ _ _ _ e'
    split
    ·rw[ip k (q+1) a6]
    ·rfl
   split
   ·rename_i hp
    have:=aH hp a7
    refine PR.bind_cong (kc a6) fun _ m e=>?_
    have:=fC _ _ e
    rw[ip k m a6]
   ·by_cases hn:n<ts.length
    ·exact Mm
    ·have ht:takeN ts 1 n=.no n:=by unfold takeN;rw[v8 a6]
     unfold dD
     rw[ht]
     rfl
theorem ip:∀(k n:Nat),4*(ts.length-n)+3≤k→eJ ts k n=eJ ts (k+1) n
 |0,_,h=>absurd h a6
 |k+1,n,h=>by
   rw[eJ.eq_2,eJ.eq_2]
   refine PR.bind_cong rfl fun _ m e=>iq k [] m ?_
   have:=ay _ _ e
   omega
theorem iq:∀(k:Nat) (l:List Stm) (n:Nat),4*(ts.length-n)+2≤k→cj ts k l n=cj ts (k+1) l n
 |0,_,_,h=>absurd h a6
 |k+1,l,n,h=>by
   rw[cj.eq_2,cj.eq_2]
   split
   ·rfl
   refine PR.bind_cong (sm k n a6) fun a m e=>iq k _ m ?_
   have:=kl _ _ _ _ e
   have:=pG _ _ _ _ e
   omega
end
theorem jJ:∀(k:Nat) (l:List Str) (n:Nat),4*(ts.length-n)+1≤k→cb ts k l n=cb ts (k+1) l n
 |0,_,_,h=>absurd h a6
 |k+1,l,n,h=>by
   rw[cb.eq_2,cb.eq_2]
   split
   ·rename_i hp
    have:=aH hp OX
    refine PR.bind_cong rfl fun t m e=>jJ k _ m ?_
    have:=bt _ _ e
    omega
   ·rfl
theorem ir (h:4*(ts.length-n)+1≤k):dh ts k n=dh ts (k+1) n:=by
 unfold dh
 refine PR.bind_cong rfl fun t m e=>jJ k _ m ?_
 have:=bt _ _ e
 omega
theorem kL:∀(k:Nat) (l:List Str) (n:Nat),4*(ts.length-n)+1≤k→bP ts k l n=bP ts (k+1) l n
 |0,_,_,h=>absurd h a6
 |k+1,l,n,h=>by
   rw[bP.eq_2,bP.eq_2]
   split
   ·rename_i hp
    have:=aH hp a7
    refine PR.bind_cong (ir a6) fun t m e=>PR.bind_cong rfl fun _ q e'=>kL k _ q ?_
    have:=fD _ _ e
    have:=ay _ _ e'
    omega
   ·rfl
theorem vu (h:4*(ts.length-n)+2≤k):kW ts k n=kW ts (k+1) n:=by
 unfold kW
 refine PR.bind_cong rfl fun _ m1 e1=>PR.bind_cong rfl fun t m2 e2=>PR.bind_cong rfl fun _ m3 e3=>?_
 have:=ay _ _ e1
 have:=bt _ _ e2
 have:=ay _ _ e3
 refine PR.bind_cong (by rw[ir (k:=k) (n:=m3) a6]) fun ps m4 e4=>PR.bind_cong rfl fun _ m5 e5=>?_
 have h4:m3≤m4:=by
  split at e4
  ·exact LF (fD _ _ e4)
  ·cases e4;exact b9 _
 have:=ay _ _ e5
 refine PR.bind_cong rfl fun _ m6 e6=>?_
 have h6:m5≤m6:=by
  have:=ay _ _ e6
  split at this <;> omega
 refine PR.bind_cong (kL k [] m6 a6) fun ls m7 e7=>?_
 have:=gJ _ _ e7
 rw[iq k [] m7 a6]
theorem lG:∀(k:Nat) (vs:List Str) (ars:List (Str×Int)) (n:Nat),4*(ts.length-n)+1≤k→fN ts k vs ars n=fN ts (k+1) vs ars n
 |0,_,_,_,h=>absurd h a6
 |k+1,vs,ars,n,h=>by
   rw[fN.eq_2,fN.eq_2]
   split
   ·rename_i hp
    have:=aH hp a7
    refine PR.bind_cong (ir a6) fun t m e=>PR.bind_cong rfl fun _ q e'=>lG k _ _ q ?_
    have:=fD _ _ e
    have:=ay _ _ e'
    omega
   split
   ·rename_i hp
    have:=aH hp a7
    refine PR.bind_cong rfl fun t m1 e1=>PR.bind_cong rfl fun _ m2 e2=>PR.bind_cong rfl fun z m3 e3=>PR.bind_cong rfl fun _ m4 e4=>PR.bind_cong rfl fun _ m5 e5=>lG k _ _ m5 ?_
    have:=bt _ _ e1
    have:=ay _ _ e2
    have:=bt _ _ e3
    have:=ay _ _ e4
    have:=ay _ _ e5
    omega
   ·rfl
theorem sn:∀(k:Nat) (l:List Fn) (n:Nat),4*(ts.length-n)+3≤k→gA ts k l n=gA ts (k+1) l n
 |0,_,_,h=>absurd h a6
 |k+1,l,n,h=>by
   rw[gA.eq_2,gA.eq_2]
   split
   ·refine PR.bind_cong (vu a6) fun t m e=>sn k _ m ?_
    have:=Aa _ _ e
    omega
   ·rfl
end
def kk (ts:List Tok):Nat:=4*ts.length+7
section
variable (ts:List Tok)
def eZ (least n:Nat):PR Ex:=ci ts (kk ts) least n
def rZ (least:Nat) (left:Ex) (n:Nat):PR Ex:=dv ts (kk ts) least left n
def aZ (n:Nat):PR Ex:=da ts (kk ts) n
def gZ (n:Nat):PR (List Ex):=dw ts (kk ts) n
def mZ (l:List Ex) (n:Nat):PR (List Ex):=dx ts (kk ts) l n
def cZ (n:Nat):PR (List Ex):=eA ts (kk ts) n
def stZ (n:Nat):PR Stm:=fh ts (kk ts) n
def bZ (n:Nat):PR (List Stm):=eJ ts (kk ts) n
def ssZ (l:List Stm) (n:Nat):PR (List Stm):=cj ts (kk ts) l n
def ngZ (l:List Str) (n:Nat):PR (List Str):=cb ts (kk ts) l n
def nZ (n:Nat):PR (List Str):=dh ts (kk ts) n
def lZ (l:List Str) (n:Nat):PR (List Str):=bP ts (kk ts) l n
def fZ (n:Nat):PR Fn:=kW ts (kk ts) n
def hZ (vs:List Str) (ars:List (Str×Int)) (n:Nat):PR (List Str×List (Str×Int)):=fN ts (kk ts) vs ars n
def fsZ (l:List Fn) (n:Nat):PR (List Fn):=gA ts (kk ts) l n
def bD (s:Str) (n:Nat):PR Unit:=if ae ts n=s then .ok () (n+1) else .no n
end
section
variable {ts:List Tok}
theorem cW {s:Str}{n:Nat}:bj ts [s] n=bD ts s n:=by simp only[bj,bD]
theorem qr {s t:Str}{n:Nat}:bj ts [s,t] n=(bD ts s n).bind fun _ n=>bD ts t n:=by
 simp only[bj,bD];split <;> rfl
theorem jk:kk ts=(4*ts.length+6)+1:=rfl
theorem vv (least n:Nat) (h0:0<least):eZ ts least n=(aZ ts n).bind fun left n=>rZ ts least left n:=by
 unfold eZ aZ rZ
 rw[jk,ci.eq_2]
 exact PR.bind_cong (lD _ n a6) fun a m _=>lC _ least a m h0 a6
theorem oO (least:Nat) (left:Ex) (n:Nat) (h0:0<least):rZ ts least left n=if (cG (ae ts n)).2.2<least then .ok left n
  else(eZ ts ((cG (ae ts n)).2.2+1) (n+1)).bind fun right m=>rZ ts least (.mk (cG (ae ts n)).1 (cG (ae ts n)).2.1 0 [] [left,right]) m:=by
 unfold rZ eZ
 rw[jk,dv.eq_2]
 split
 ·rfl
 ·exact PR.bind_cong (bM _ _ _ a6 a6) fun a m _=>lC _ least _ m h0 a6
theorem Is (n:Nat):aZ ts n=if aY ts n=2 then(takeN ts 2 n).bind fun t n=>.ok (.mk 1 0 t.num [] []) n
  else if ae ts n=[103,101,116] then(bD ts aW (n+1)).bind fun _ n=>(bD ts aT n).bind fun _ n=>.ok (.mk 5 0 0 [] []) n
  else if ae ts n=[33] then(aZ ts (n+1)).bind fun e n=>.ok (.mk 7 0 0 [] [e]) n
  else if ae ts n=aW then(eZ ts 1 (n+1)).bind fun e n=>(bD ts aT n).bind fun _ n=>.ok e n
  else(takeN ts 1 n).bind fun t n=>
   if ae ts n=[91] then(eZ ts 1 (n+1)).bind fun e n=>(bD ts [93] n).bind fun _ n=>.ok (.mk 3 0 0 t.text [e]) n
   else if ae ts n=aW then(gZ ts (n+1)).bind fun l n=>.ok (.mk 4 0 0 t.text l) n
   else .ok (.mk 2 0 0 t.text []) n:=by
 unfold aZ eZ gZ
 rw[jk,da.eq_2]
 simp only[cW,qr,PR.bind_assoc]
 rw[bM _ 1 (n+1) a6 a6,lD _ (n+1) a6]
 split
 ·rfl
 split
 ·rfl
 by_cases h1:ae ts n=aW
 ·rw[if_pos h1,if_neg (by rw[h1];simp[aW]),if_pos h1]
 rw[if_neg h1]
 split
 ·rfl
 refine PR.bind_cong rfl fun t m _=>?_
 rw[bM _ 1 (m+1) a6 a6,lE _ (m+1) a6]
theorem It (n:Nat):gZ ts n=if ae ts n=aT then .ok [] (n+1) else(eZ ts 1 n).bind fun e n=>mZ ts [e] n:=by
 unfold gZ eZ mZ
 rw[jk,dw.eq_2]
 split
 ·rfl
 ·exact PR.bind_cong (bM _ _ _ a6 a6) fun a m _=>lF _ _ m a6
theorem Iu (l:List Ex) (n:Nat):mZ ts l n=if ae ts n=eW then(eZ ts 1 (n+1)).bind fun e n=>mZ ts (l++[e]) n else(bD ts aT n).bind fun _ n=>.ok l n:=by
 unfold eZ mZ
 rw[jk,dx.eq_2]
 split
 ·exact PR.bind_cong (bM _ _ _ a6 a6) fun a m _=>lF _ _ m a6
 ·rw[cW]
theorem Iv (n:Nat):cZ ts n=(bD ts aW n).bind fun _ n=>(eZ ts 1 n).bind fun e n=>(bD ts aT n).bind fun _ n=>.ok [e] n:=by
 unfold cZ eZ eA
 simp only[cW]
def nmZ (ts:List Tok) (n:Nat):PR Stm:=
 (takeN ts 1 n).bind fun t n=>
   (if ae ts n=aW then(gZ ts (n+1)).bind fun l n=>.ok (Stm.mk 6 t.text l [] []) n
    else if ae ts n=[91] then(eZ ts 1 (n+1)).bind fun i n=>(bD ts [93] n).bind fun _ n=>(bD ts [61] n).bind fun _ n=>(eZ ts 1 n).bind fun e n=>.ok (Stm.mk 2 t.text [i,e] [] []) n
    else(bD ts [61] n).bind fun _ n=>(eZ ts 1 n).bind fun e n=>.ok (Stm.mk 1 t.text [e] [] []) n).bind fun s n=>(bD ts bz n).bind fun _ n=>.ok s n
theorem EH (n:Nat):dD ts (kk ts) n=nmZ ts n:=by
 unfold dD nmZ eZ gZ
 refine PR.bind_cong rfl fun t m _=>?_
 simp only[cW,qr,PR.bind_assoc]
 by_cases h1:ae ts m=aW
 ·rw[if_neg (by rw[h1];simp[aW]),if_neg (by rw[h1];simp[aW]),if_pos h1,if_pos h1]
 by_cases h2:ae ts m=[91]
 ·rw[if_neg (by rw[h2];simp),if_pos h2,if_neg h1,if_pos h2]
 rw[if_neg h1,if_neg h2,if_neg h1,if_neg h2]
 unfold bD
 by_cases h3:ae ts m=[61]
 ·rw[if_pos h3,if_pos h3];rfl
 ·rw[if_neg h3,if_neg h3];rfl
theorem EI (n:Nat):stZ ts n =
  if ae ts n=[112,117,116] then(cZ ts (n+1)).bind fun e n=>(bD ts bz n).bind fun _ n=>.ok (.mk 3 [] e [] []) n
  else if ae ts n=[114,101,116,117,114,110] then
   (if ae ts (n+1)=bz then .ok (.mk 7 [] [] [] []) (n+2)
    else(eZ ts 1 (n+1)).bind fun e n=>(bD ts bz n).bind fun _ n=>.ok (.mk 7 [] [e] [] []) n)
  else if ae ts n=[105,102] then
   (cZ ts (n+1)).bind fun e n=>(bZ ts n).bind fun th n=>
     if ae ts n=[101,108,115,101] then(bZ ts (n+1)).bind fun el n=>.ok (.mk 4 [] e th el) n
     else .ok (.mk 4 [] e th []) n
  else if ae ts n=[119,104,105,108,101] then
   (cZ ts (n+1)).bind fun e n=>(bZ ts n).bind fun th n=>.ok (.mk 5 [] e th []) n
  else nmZ ts n:=by
 rw[←EH]
 unfold stZ cZ eZ bZ
 rw[jk,fh.eq_2]
 simp only[cW]
 rw[kc (n:=n+1) a6,bM _ 1 (n+1) a6 a6,wM (n:=n) a6]
 split
 ·rfl
 split
 ·rfl
 split
 ·refine PR.bind_cong rfl fun e m _=>PR.bind_cong (ip _ m a6) fun th q _=>?_
  rw[ip _ (q+1) a6]
 split
 ·refine PR.bind_cong rfl fun e m _=>PR.bind_cong (ip _ m a6) fun th q _=>rfl
 ·rfl
theorem Iw (n:Nat):bZ ts n=(bD ts [123] n).bind fun _ n=>ssZ ts [] n:=by
 unfold bZ ssZ
 rw[jk,eJ.eq_2,cW]
 exact PR.bind_cong rfl fun _ m _=>iq _ _ m a6
theorem EJ (l:List Stm) (n:Nat):ssZ ts l n=if ae ts n=[125] then .ok l (n+1) else(stZ ts n).bind fun s n=>ssZ ts (l++[s]) n:=by
 unfold stZ ssZ
 rw[jk,cj.eq_2]
 split
 ·rfl
 ·exact PR.bind_cong (sm _ _ a6) fun _ m _=>iq _ _ m a6
theorem EK (l:List Str) (n:Nat):ngZ ts l n=if ae ts n=eW then(takeN ts 1 (n+1)).bind fun t n=>ngZ ts (l++[t.text]) n else .ok l n:=by
 unfold ngZ
 rw[jk,cb.eq_2]
 split
 ·exact PR.bind_cong rfl fun _ m _=>jJ _ _ m a6
 ·rfl
theorem Ix (n:Nat):nZ ts n=(takeN ts 1 n).bind fun t n=>ngZ ts [t.text] n:=rfl
theorem Iy (l:List Str) (n:Nat):lZ ts l n=if ae ts n=[118,97,114] then(nZ ts (n+1)).bind fun m n=>(bD ts bz n).bind fun _ n=>lZ ts (l++m) n else .ok l n:=by
 unfold lZ nZ
 rw[jk,bP.eq_2]
 simp only[cW]
 split
 ·exact PR.bind_cong (ir a6) fun _ m _=>PR.bind_cong rfl fun _ q _=>kL _ _ q a6
 ·rfl
def fnZ (ts:List Tok) (n:Nat):PR Fn:=
 (takeN ts 1 n).bind fun t n=>(bD ts aW n).bind fun _ n=>
   (if ae ts n=aT then .ok [] (n+1) else(nZ ts n).bind fun ps n=>(bD ts aT n).bind fun _ n=>.ok ps n).bind fun ps n=>
     (bD ts [123] (if ae ts n=[119,111,114,100] then n+1 else n)).bind fun _ m=>(lZ ts [] m).bind fun ls m=>
       (ssZ ts [] m).bind fun b m=>.ok ⟨t.text,ps,ls,decide (ae ts n=[119,111,114,100]),b⟩ m
theorem Db (n:Nat):fZ ts n=(bD ts [102,117,110,99] n).bind fun _ n=>fnZ ts n:=by
 unfold fZ kW fnZ nZ lZ ssZ
 simp only[cW,PR.bind_assoc]
 refine PR.bind_cong rfl fun _ m1 _=>PR.bind_cong rfl fun t m2 _=>PR.bind_cong rfl fun _ m3 _=>?_
 by_cases hc:ae ts m3=aT
 ·have hk:aY ts m3≠1:=by
   unfold ae at hc
   unfold aY
   split at hc
   ·split at hc
    ·omega
    ·cases hc
   ·cases hc
  rw[if_neg hk,if_pos hc]
  simp only[PR.bind_ok,bD,if_pos hc]
 ·rw[if_neg hc]
  by_cases hk:aY ts m3=1
  ·rw[if_pos hk,PR.bind_assoc]
   simp only[PR.bind_assoc,PR.bind_ok]
  ·rw[if_neg hk]
   have ht:takeN ts 1 m3=.no m3:=by
    unfold aY at hk
    unfold takeN
    split
    ·rename_i t h
     rw[h] at hk
     rw[if_neg hk]
    ·rfl
   simp only[PR.bind_ok,bD,if_neg hc,dh,ht,PR.bind_no]
theorem Iz (vs:List Str) (ars:List (Str×Int)) (n:Nat):hZ ts vs ars n =
  if ae ts n=[118,97,114] then(nZ ts (n+1)).bind fun m n=>(bD ts bz n).bind fun _ n=>hZ ts (vs++m) ars n
  else if ae ts n=[97,114,114,97,121] then
   (takeN ts 1 (n+1)).bind fun t n=>(bD ts [91] n).bind fun _ n=>(takeN ts 2 n).bind fun z n=>(bD ts [93] n).bind fun _ n=>(bD ts bz n).bind fun _ n=>hZ ts vs (ars++[(t.text,(z.num:Int))]) n
  else .ok (vs,ars) n:=by
 unfold hZ nZ
 rw[jk,fN.eq_2]
 simp only[cW]
 split
 ·exact PR.bind_cong (ir a6) fun _ m _=>PR.bind_cong rfl fun _ q _=>lG _ _ _ q a6
 split
 ·exact PR.bind_cong rfl fun _ _ _=>PR.bind_cong rfl fun _ _ _=>PR.bind_cong rfl fun _ _ _=>PR.bind_cong rfl fun _ _ _=>PR.bind_cong rfl fun _ q _=>lG _ _ _ q a6
 ·rfl
theorem yc (l:List Fn) (n:Nat):fsZ ts l n=if n<ts.length then(fZ ts n).bind fun f n=>fsZ ts (l++[f]) n else .ok l n:=by
 unfold fsZ fZ
 rw[jk,gA.eq_2]
 split
 ·exact PR.bind_cong (vu a6) fun _ m _=>sn _ _ m a6
 ·rfl
theorem yd (n:Nat):jY ts (kk ts) n=(hZ ts [] [] n).bind fun h n=>(fZ ts n).bind fun f n=>(fsZ ts [f] n).bind fun fs n=>.ok ⟨h.1,h.2,fs⟩ n:=rfl
theorem vw (s:Str):(cG s).2.2≤9:=by
 have key:∀(c:Prop) [Decidable c] (x y:Int×Int×Nat),x.2.2≤9→y.2.2≤9→(if c then x else y).2.2≤9:=by
  intro c _ x y hx hy
  by_cases h:c
  ·rw[if_pos h];exact hx
  ·rw[if_neg h];exact hy
 unfold cG
 repeat refine key _ _ _ (by decide) ?_
 decide
theorem nL {least n:Nat} (h0:0<least) (hs:¬(cG (ae ts n)).2.2<least):n<ts.length:=by
 refine D0 fun hc=>hs ?_
 unfold ae
 rw[v8 a6]
 simpa[cG] using h0
theorem Dc {least:Nat} (h0:0<least):∀(d:Nat) (left:Ex) (n:Nat),ts.length-n≤d→rZ ts least left n=(rZ ts (least+1) left n).bind fun l m=>rZ ts least l m
 |d,left,n,hd=>by
   by_cases hs:(cG (ae ts n)).2.2<least+1
   ·rw[oO (least+1) _ _ a6,if_pos hs];rfl
   rw[oO (least+1) _ _ a6,if_neg hs,oO least _ _ h0,if_neg a6,PR.bind_assoc]
   refine PR.bind_cong rfl fun a m e=>?_
   have hm:=aU _ _ _ _ _ e
   have hn:=nL a6 hs
   cases d with
   |zero=>omega
   |succ d=>exact Dc h0 d _ m a6
theorem IA {least:Nat} (h0:0<least) (n:Nat):eZ ts least n=(eZ ts (least+1) n).bind fun l m=>rZ ts least l m:=by
 rw[vv _ _ h0,vv (least+1) _ a6,PR.bind_assoc]
 exact PR.bind_cong rfl fun a m _=>Dc h0 _ a m (b9 _)
theorem vx {least:Nat} (h0:0<least):∀(d:Nat) (left:Ex) (n:Nat),ts.length-n≤d→∀a m,rZ ts least left n=.ok a m→(cG (ae ts m)).2.2<least
 |d,left,n,hd,a,m,e=>by
   rw[oO _ _ _ h0] at e
   by_cases hs:(cG (ae ts n)).2.2<least
   ·rw[if_pos hs] at e;cases e;exact hs
   rw[if_neg hs] at e
   have hn:=nL h0 hs
   cases he:eZ ts ((cG (ae ts n)).2.2+1) (n+1) with
   |no _=>rw[he] at e;cases e
   |ok b q=>
     rw[he] at e
     have hm:=aU _ _ _ _ _ he
     cases d with
     |zero=>omega
     |succ d=>exact vx h0 d _ q a6 a m e
theorem vy {least n m:Nat}{a:Ex} (h0:0<least) (e:eZ ts least n=.ok a m):(cG (ae ts m)).2.2<least:=by
 rw[vv _ _ h0] at e
 cases h:aZ ts n with
 |no _=>rw[h] at e;cases e
 |ok b q=>rw[h] at e;exact vx h0 _ b q (b9 _) a m e
theorem EL (n:Nat):eZ ts 10 n=aZ ts n:=by
 rw[vv _ _ a6]
 have:(fun left n=>rZ ts 10 left n)=PR.ok:=by
  funext a m
  rw[oO _ _ _ a6,if_pos (by have:=vw (ae ts m);omega)]
 rw[this,PR.bind_id]
end
end
section
abbrev RQ (α:Type):=α×Nat×Bool
def kM:Tok:=⟨0,[],0,0⟩
section
variable (ts:List Tok)
abbrev isR (s:Str) (q:Nat×Bool):Prop:=q.2=false∧ae ts q.1=s
def ah (s:Str) (q:Nat×Bool):Nat×Bool:=if isR ts s q then(q.1+1,false) else(q.1,true)
def bg (k:Nat) (q:Nat×Bool):RQ Tok:=if q.2=false∧aY ts q.1=k then((ts[q.1]?).getD kM,q.1+1,false) else(kM,q.1,true)
mutual
def eR:Nat→Nat→Nat×Bool→RQ Ex
 |0,_,q=>(.mk 0 0 0 [] [],q.1,true)
 |k+1,least,q=>if 9<least then aR k q else loR k least (eR k (least+1) q)
def loR:Nat→Nat→RQ Ex→RQ Ex
 |0,_,q=>(q.1,q.2.1,true)
 |k+1,least,q=>
   if q.2.2=false∧(cG (ae ts q.2.1)).2.2=least then
    let r:=eR k (least+1) (q.2.1+1,false)
    loR k least (.mk (cG (ae ts q.2.1)).1 (cG (ae ts q.2.1)).2.1 0 [] [q.1,r.1],r.2)
   else q
def aR:Nat→Nat×Bool→RQ Ex
 |0,q=>(.mk 0 0 0 [] [],q.1,true)
 |k+1,q=>
   if q.2=false∧aY ts q.1=2 then(.mk 1 0 (bg ts 2 q).1.num [] [],(bg ts 2 q).2)
   else if isR ts [103,101,116] q then(.mk 5 0 0 [] [],ah ts aT (ah ts aW (q.1+1,false)))
   else if isR ts [33] q then let r:=aR k (q.1+1,false);(.mk 7 0 0 [] [r.1],r.2)
   else if isR ts aW q then let r:=eR k 1 (q.1+1,false);(r.1,ah ts aT r.2)
   else if isR ts [91] (bg ts 1 q).2 then let r:=eR k 1 ((bg ts 1 q).2.1+1,false);(.mk 3 0 0 (bg ts 1 q).1.text [r.1],ah ts [93] r.2)
   else if isR ts aW (bg ts 1 q).2 then let r:=gR k ((bg ts 1 q).2.1+1,false);(.mk 4 0 0 (bg ts 1 q).1.text r.1,r.2)
   else(.mk 2 0 0 (bg ts 1 q).1.text [],(bg ts 1 q).2)
def gR:Nat→Nat×Bool→RQ (List Ex)
 |0,q=>([],q.1,true)
 |k+1,q=>if isR ts aT q then([],q.1+1,false) else let r:=eR k 1 q;goR k ([r.1],r.2)
def goR:Nat→RQ (List Ex)→RQ (List Ex)
 |0,q=>(q.1,q.2.1,true)
 |k+1,q=>if isR ts eW q.2 then let r:=eR k 1 (q.2.1+1,false);goR k (q.1++[r.1],r.2) else(q.1,ah ts aT q.2)
end
def kE:Nat:=13*ts.length+40
def cR (q:Nat×Bool):RQ (List Ex):=let r:=eR ts (kE ts) 1 (ah ts aW q);([r.1],ah ts aT r.2)
def nsR (q:Nat×Bool):RQ Stm:=
 let t:=bg ts 1 q
 if isR ts aW t.2 then let r:=gR ts (kE ts) (t.2.1+1,false);(.mk 6 t.1.text r.1 [] [],r.2)
 else if isR ts [91] t.2 then
  let i:=eR ts (kE ts) 1 (t.2.1+1,false)
  let e:=eR ts (kE ts) 1 (ah ts [61] (ah ts [93] i.2))
  (.mk 2 t.1.text [i.1,e.1] [] [],e.2)
 else let e:=eR ts (kE ts) 1 (ah ts [61] t.2);(.mk 1 t.1.text [e.1] [] [],e.2)
def nmR (q:Nat×Bool):RQ Stm:=((nsR ts q).1,ah ts bz (nsR ts q).2)
mutual
def stR:Nat→Nat×Bool→RQ Stm
 |0,q=>(.mk 0 [] [] [] [],q.1,true)
 |k+1,q=>
   if isR ts [112,117,116] q then let c:=cR ts (q.1+1,false);(.mk 3 [] c.1 [] [],ah ts bz c.2)
   else if isR ts [114,101,116,117,114,110] q then
    if isR ts bz (q.1+1,false) then(.mk 7 [] [] [] [],q.1+1+1,false)
    else let e:=eR ts (kE ts) 1 (q.1+1,false);(.mk 7 [] [e.1] [] [],ah ts bz e.2)
   else if isR ts [105,102] q then
    let c:=cR ts (q.1+1,false);let b:=bR k c.2
    if isR ts [101,108,115,101] b.2 then let l:=bR k (b.2.1+1,false);(.mk 4 [] c.1 b.1 l.1,l.2)
    else(.mk 4 [] c.1 b.1 [],b.2)
   else if isR ts [119,104,105,108,101] q then let c:=cR ts (q.1+1,false);let b:=bR k c.2;(.mk 5 [] c.1 b.1 [],b.2)
   else nmR ts q
def bR:Nat→Nat×Bool→RQ (List Stm)
 |0,q=>([],q.1,true)
 |k+1,q=>ssR k ([],ah ts [123] q)
def ssR:Nat→RQ (List Stm)→RQ (List Stm)
 |0,q=>(q.1,q.2.1,true)
 |k+1,q=>
   if q.2.2=true then q
   else if isR ts [125] q.2 then(q.1,q.2.1+1,false)
   else let s:=stR k q.2;ssR k (q.1++[s.1],s.2)
end
def ngR:Nat→RQ (List Str)→RQ (List Str)
 |0,q=>(q.1,q.2.1,true)
 |k+1,q=>if isR ts eW q.2 then ngR k (q.1++[(bg ts 1 (q.2.1+1,false)).1.text],(bg ts 1 (q.2.1+1,false)).2) else q
def nR (q:Nat×Bool):RQ (List Str):=ngR ts (kE ts) ([(bg ts 1 q).1.text],(bg ts 1 q).2)
def lR:Nat→RQ (List Str)→RQ (List Str)
 |0,q=>(q.1,q.2.1,true)
 |k+1,q=>if isR ts [118,97,114] q.2 then let m:=nR ts (q.2.1+1,false);lR k (q.1++m.1,ah ts bz m.2) else q
def psR (q:Nat×Bool):RQ (List Str):=if isR ts aT q then([],q.1+1,false) else let m:=nR ts q;(m.1,ah ts aT m.2)
def fR (q:Nat×Bool):RQ Fn:=
 let t:=bg ts 1 q
 let p:=psR ts (ah ts aW t.2)
 let l:=lR ts (kE ts) ([],ah ts [123] (if isR ts [119,111,114,100] p.2 then(p.2.1+1,false) else p.2))
 let b:=ssR ts (kE ts) ([],l.2)
 (⟨t.1.text,p.1,l.1,decide (isR ts [119,111,114,100] p.2),b.1⟩,b.2)
def hR:Nat→RQ (List Str×List (Str×Int))→RQ (List Str×List (Str×Int))
 |0,q=>(q.1,q.2.1,true)
 |k+1,q=>
   if q.2.2=true then q
   else if isR ts [118,97,114] q.2 then let m:=nR ts (q.2.1+1,false);hR k ((q.1.1++m.1,q.1.2),ah ts bz m.2)
   else if isR ts [97,114,114,97,121] q.2 then
    let t:=bg ts 1 (q.2.1+1,false)
    let z:=bg ts 2 (ah ts [91] t.2)
    hR k ((q.1.1,q.1.2++[(t.1.text,(z.1.num:Int))]),ah ts bz (ah ts [93] z.2))
   else q
def fsR:Nat→RQ (List Fn)→RQ (List Fn)
 |0,q=>(q.1,q.2.1,true)
 |k+1,q=>
   if q.2.2=true then q
   else let f:=fR ts q.2
    if f.2.2=true∨f.2.1=ts.length then(q.1++[f.1],f.2) else fsR k (q.1++[f.1],ah ts [102,117,110,99] f.2)
def pR:RQ Prog:=
 let h:=hR ts (kE ts) (([],[]),0,false)
 let f:=fsR ts (kE ts) ([],ah ts [102,117,110,99] h.2)
 (⟨h.1.1,h.1.2,f.1⟩,f.2)
end
def Goes {α:Type} (q:Nat×Bool) (p:PR α) (r:RQ α):Prop:=
 if q.2=true then r.2=(q.1,true) else match p with|.ok a m=>r=(a,m,false)|.no m=>r.2=(m,true)
variable {q:Nat×Bool}{n:Nat}{α:Type}{s:Str}{p:PR α}{r:RQ α}
section
variable {ts:List Tok}
theorem Goes.wrong (h:r.2=(n,true)):Goes (n,true) p r:=by unfold Goes;rw[if_pos rfl];exact h
theorem Goes.ret{a:α}:Goes q (.ok a q.1) (a,q):=by
 obtain⟨n,w⟩:=q
 cases w
 ·rfl
 ·rfl
theorem Goes.bind {α β:Type}{q:Nat×Bool}{p:PR α}{r:RQ α}{f:α→Nat→PR β}{r':RQ β} (h:Goes q p r) (h':Goes r.2 (f r.1 r.2.1) r'):Goes q (p.bind f) r':=by
 obtain⟨n,w⟩:=q
 obtain⟨a,m,v⟩:=r
 cases w
 ·cases p with
  |ok b k=>cases h;exact h'
  |no k=>cases h;exact h'
 ·cases h;exact h'
theorem Goes.ite{c c':Prop} [Decidable c] [Decidable c']{p p':PR α}{r r':RQ α} (hc:q.2=false→(c'↔c)) (h0:q.2=true→¬c') (h1:q.2=false→c→Goes q p r) (h2:¬c'→Goes q p' r'):Goes q (if c then p else p') (if c' then r else r'):=by
 obtain⟨n,w⟩:=q
 cases w
 ·have hi:=hc rfl
  by_cases h:c
  ·rw[if_pos h,if_pos (hi.2 h)];exact h1 rfl h
  ·rw[if_neg h,if_neg (mt hi.1 h)];exact h2 (mt hi.1 h)
 ·rw[if_neg (h0 rfl)]
  exact h2 (h0 rfl)
theorem aO:Goes q (bD ts s q.1) ((),ah ts s q):=by
 obtain⟨n,w⟩:=q
 unfold ah bD
 cases w
 ·by_cases h:ae ts n=s
  ·rw[if_pos h,if_pos ⟨rfl,h⟩];rfl
  ·rw[if_neg h,if_neg (fun x=>h x.2)];rfl
 ·rw[if_neg (c:=isR ts s (n,true)) (fun x=>by cases x.1)];exact .wrong rfl
theorem dE {k:Nat} (hk:0<k):Goes q (takeN ts k q.1) (bg ts k q):=by
 obtain⟨n,w⟩:=q
 unfold bg takeN aY
 cases w
 ·cases h:ts[n]? with
  |none=>simp[Goes,h,show ¬0=k by omega]
  |some t=>
    by_cases hc:t.kind=k
    ·simp[Goes,h,hc]
    ·simp[Goes,h,hc]
 ·simp[Goes]
theorem Goes.ok {α:Type}{q:Nat×Bool}{p:PR α}{r:RQ α} (h:Goes q p r) (hr:r.2.2=false):q.2=false∧p=.ok r.1 r.2.1:=by
 obtain⟨n,w⟩:=q
 obtain⟨a,m,v⟩:=r
 cases w
 ·cases p with
  |ok b k=>cases h;exact⟨rfl,rfl⟩
  |no k=>cases h;cases hr
 ·cases h;cases hr
def rem (ts:List Tok) (q:Nat×Bool):Nat:=if q.2=true then 0 else ts.length-q.1
theorem fQ (h:Goes q p r) (hp:p.FwdE q.1):rem ts r.2≤rem ts q:=by
 unfold rem
 by_cases hr:r.2.2=true
 ·rw[if_pos hr];omega
 ·obtain⟨h1,h2⟩:=h.ok (by simpa using hr)
  have:=hp _ _ h2
  rw[if_neg hr,if_neg (by simp[h1])];omega
theorem fS (hs:s≠[]) (h:isR ts s q):rem ts (q.1+1,false)+1=rem ts q:=by
 have:=aH h.2 hs
 unfold rem
 rw[if_neg a7,if_neg (by simp[h.1])]
 simp only
 omega
theorem ke:(bD ts s n).FwdE n:=by rw[←cW];exact ay
theorem iu:rem ts (ah ts s q)≤rem ts q:=fQ (r:=((),ah ts s q)) aO ke
theorem nM {k:Nat} (hk:0<k):rem ts (bg ts k q).2≤rem ts q:=fQ (dE hk) bt.le
theorem Goes.may{p p':PR α}{r r':RQ α} (h1:isR ts s q→Goes (q.1,false) p r) (h2:¬isR ts s q→Goes q p' r'):Goes q (if ae ts q.1=s then p else p') (if isR ts s q then r else r'):=
 Goes.ite (fun hq=>⟨fun h=>h.2,fun h=>⟨hq,h⟩⟩) (fun hq h=>by have h:=h.1;rw[hq] at h;cases h) (fun hq h=>by have:=h1 ⟨hq,h⟩;rwa [show (q.1,false)=q from by rw[←hq]] at this) h2
theorem Goes.at{n m:Nat} (h:Goes (m,false) p r):Goes (n,false) p r:=h
mutual
theorem iS:∀(k least:Nat) (q:Nat×Bool),1≤least→least≤10→13*rem ts q+12≤k+least→Goes q (eZ ts least q.1) (eR ts k least q)
 |0,least,q,_,_,h=>absurd h a6
 |k+1,least,q,h1,h2,h=>by
   rw[eR]
   by_cases hl:9<least
   ·obtain rfl:least=10:=a6
    rw[if_pos hl,EL]
    exact vz k q a6
   ·rw[if_neg hl,IA h1]
    have hg:=iS k (least+1) q a6 a6 a6
    have:=fQ (ts:=ts) hg (aU _ _ _).le
    exact hg.bind (so k least _ h1 a6 a6 fun hv=>by have:=vy a6 (hg.ok hv).2;omega)
theorem so:∀(k least:Nat) (r:RQ Ex),1≤least→least≤9→13*rem ts r.2+1≤k→(r.2.2=false→(cG (ae ts r.2.1)).2.2≤least)→Goes r.2 (rZ ts least r.1 r.2.1) (loR ts k least r)
 |0,_,_,_,_,h,_=>absurd h a6
 |k+1,least,r,h1,h2,h,hs=>by
   obtain⟨a,n,w⟩:=r
   rw[loR]
   cases w with
   |true=>rw[if_neg (fun x=>by cases x.1)];exact .wrong rfl
   |false=>
     have hs:=hs rfl
     by_cases hc:(cG (ae ts n)).2.2=least
     ·rw[if_pos ⟨rfl,hc⟩,oO _ _ _ h1,if_neg Oa]
      have hn:n<ts.length:=nL h1 a6
      have hr:rem ts (n+1,false)+1=rem ts (n,false):=by unfold rem;rw[if_neg a7,if_neg a7];simp only;omega
      have hg:=iS k (least+1) (n+1,false) a6 a6 (by simp only at h;omega)
      have:=fQ (ts:=ts) hg (aU _ _ _).le
      simp only[hc]
      have hh:13*rem ts (eR ts k (least+1) (n+1,false)).2+1≤k:=by simp only at h;omega
      exact Goes.at (hg.bind (so k least (Ex.mk (cG (ae ts n)).1 (cG (ae ts n)).2.1 0 [] [a,(eR ts k (least+1) (n+1,false)).1],(eR ts k (least+1) (n+1,false)).2) h1 h2 hh fun hv=>by have:=vy a6 (hg.ok hv).2;simp only at this ⊢;omega))
     ·rw[if_neg (fun x=>hc x.2),oO _ _ _ h1,if_pos (by simp only;simp only at hs;omega)]
      exact .ret
theorem vz:∀(k:Nat) (q:Nat×Bool),13*rem ts q+1≤k→Goes q (aZ ts q.1) (aR ts k q)
 |0,_,h=>absurd h a6
 |k+1,q,h=>by
   rw[aR,Is]
   refine Goes.ite (fun hq=>⟨fun x=>x.2,fun x=>⟨hq,x⟩⟩) (fun hq x=>by rw[hq] at x;cases x.1) (fun _ _=>(dE a6).bind .ret) fun _=>?_
   refine Goes.may (fun hi=>Goes.at ((aO (q:=(q.1+1,false))).bind (aO.bind .ret))) fun _=>?_
   refine Goes.may (fun hi=>?_) fun _=>?_
   ·have:=fS a7 hi
    exact Goes.at ((vz k (q.1+1,false) a6).bind .ret)
   refine Goes.may (fun hi=>?_) fun _=>?_
   ·have:=fS Oq hi
    exact Goes.at ((iS k 1 (q.1+1,false) a6 a6 a6).bind (aO.bind .ret))
   refine(dE a6).bind ?_
   have ht:=nM (ts:=ts) (k:=1) a6 (q:=q)
   refine Goes.may (fun hi=>?_) fun _=>?_
   ·have:=fS a7 hi
    exact Goes.at ((iS k 1 ((bg ts 1 q).2.1+1,false) a6 a6 a6).bind (aO.bind .ret))
   refine Goes.may (fun hi=>?_) fun _=>.ret
   ·have:=fS Oq hi
    exact Goes.at ((vA k ((bg ts 1 q).2.1+1,false) a6).bind .ret)
theorem vA:∀(k:Nat) (q:Nat×Bool),13*rem ts q+12≤k→Goes q (gZ ts q.1) (gR ts k q)
 |0,_,h=>absurd h a6
 |k+1,q,h=>by
   rw[gR,It]
   refine Goes.may (fun hi=>rfl) fun _=>?_
   have hg:=iS k 1 q a6 a6 a6
   have:=fQ (ts:=ts) hg (aU _ _ _).le
   have hh:13*rem ts (eR ts k 1 q).2+1≤k:=a6
   exact hg.bind (sq k ([(eR ts k 1 q).1],(eR ts k 1 q).2) hh)
theorem sq:∀(k:Nat) (r:RQ (List Ex)),13*rem ts r.2+1≤k→Goes r.2 (mZ ts r.1 r.2.1) (goR ts k r)
 |0,_,h=>absurd h a6
 |k+1,r,h=>by
   rw[goR,Iu]
   refine Goes.may (fun hi=>?_) fun _=>aO.bind .ret
   have:=fS OX hi
   have hg:=iS k 1 (r.2.1+1,false) a6 a6 a6
   have:=fQ (ts:=ts) hg (aU _ _ _).le
   have hh:13*rem ts (eR ts k 1 (r.2.1+1,false)).2+1≤k:=a6
   exact Goes.at (hg.bind (sq k (r.1++[(eR ts k 1 (r.2.1+1,false)).1],(eR ts k 1 (r.2.1+1,false)).2) hh))
end
theorem oP (q:Nat×Bool):Goes q (eZ ts 1 q.1) (eR ts (kE ts) 1 q):=iS _ 1 q a6 a6 OZ
theorem EM (q:Nat×Bool):Goes q (gZ ts q.1) (gR ts (kE ts) q):=vA _ q OZ
theorem lH (q:Nat×Bool):Goes q (cZ ts q.1) (cR ts q):=by
 rw[Iv]
 exact aO.bind ((oP _).bind (aO.bind .ret))
theorem ye (q:Nat×Bool):Goes q (nmZ ts q.1) (nmR ts q):=by
 have hs:Goes q ((takeN ts 1 q.1).bind fun t n=>
   if ae ts n=aW then(gZ ts (n+1)).bind fun l n=>.ok (Stm.mk 6 t.text l [] []) n
   else if ae ts n=[91] then(eZ ts 1 (n+1)).bind fun i n=>(bD ts [93] n).bind fun _ n=>(bD ts [61] n).bind fun _ n=>(eZ ts 1 n).bind fun e n=>.ok (Stm.mk 2 t.text [i,e] [] []) n
   else(bD ts [61] n).bind fun _ n=>(eZ ts 1 n).bind fun e n=>.ok (Stm.mk 1 t.text [e] [] []) n) (nsR ts q):=by
  unfold nsR
  refine(dE a6).bind ?_
  refine Goes.may (fun hi=>Goes.at ((EM ((bg ts 1 q).2.1+1,false)).bind .ret)) fun _=>?_
  refine Goes.may (fun hi=>Goes.at ((oP ((bg ts 1 q).2.1+1,false)).bind (aO.bind (aO.bind ((oP _).bind .ret))))) fun _=>?_
  exact aO.bind ((oP _).bind .ret)
 have:=hs.bind (r':=nmR ts q) (f:=fun s n=>(bD ts bz n).bind fun _ n=>.ok s n) (aO.bind .ret)
 rwa [PR.bind_assoc] at this
theorem yf:(cZ ts n).FwdE n:=fC
mutual
theorem yg:∀(k:Nat) (q:Nat×Bool),4*rem ts q+1≤k→Goes q (stZ ts q.1) (stR ts k q)
 |0,_,h=>absurd h a6
 |k+1,q,h=>by
   rw[stR,EI]
   refine Goes.may (fun hi=>Goes.at ((lH (q.1+1,false)).bind (aO.bind .ret))) fun _=>?_
   refine Goes.may (fun hi=>?_) fun _=>?_
   ·exact Goes.at (Goes.may (q:=(q.1+1,false)) (fun _=>rfl) fun _=>(oP (q.1+1,false)).bind (aO.bind .ret))
   refine Goes.may (fun hi=>?_) fun _=>?_
   ·have h1:=fS a7 hi
    have h2:=fQ (ts:=ts) (lH (ts:=ts) (q.1+1,false)) yf
    have hb:=rb k (cR ts (q.1+1,false)).2 a6
    have h3:=fQ (ts:=ts) hb (iB _ _)
    refine Goes.at ((lH (q.1+1,false)).bind (hb.bind (Goes.may (fun hj=>?_) fun _=>.ret)))
    have h4:=fS a7 hj
    exact Goes.at ((rb k (_,false) a6).bind .ret)
   refine Goes.may (fun hi=>?_) fun _=>ye q
   ·have h1:=fS a7 hi
    have h2:=fQ (ts:=ts) (lH (ts:=ts) (q.1+1,false)) yf
    have hb:=rb k (cR ts (q.1+1,false)).2 a6
    exact Goes.at ((lH (q.1+1,false)).bind (hb.bind .ret))
theorem rb:∀(k:Nat) (q:Nat×Bool),4*rem ts q+3≤k→Goes q (bZ ts q.1) (bR ts k q)
 |0,_,h=>absurd h a6
 |k+1,q,h=>by
   rw[bR,Iw]
   have h1:=iu (ts:=ts) (s:=[123]) (q:=q)
   exact aO.bind (jK k ([],ah ts [123] q) (.inl Oa))
theorem jK:∀(k:Nat) (r:RQ (List Stm)),4*rem ts r.2+2≤k∨r.2.2=true∧1≤k→Goes r.2 (ssZ ts r.1 r.2.1) (ssR ts k r)
 |0,_,h=>absurd h a6
 |k+1,r,h=>by
   rw[ssR,EJ]
   obtain⟨l,n,w⟩:=r
   cases w with
   |true=>rw[if_pos rfl];exact .wrong rfl
   |false=>
     rw[if_neg (c:=((l,n,false):RQ (List Stm)).2.2=true) a7]
     refine Goes.may (q:=(n,false)) (fun hi=>rfl) fun _=>?_
     have h:4*rem ts (n,false)+2≤k+1:=h.resolve_right fun x=>by cases x.1
     have hg:=yg k (n,false) a6
     have h1:=fQ (ts:=ts) hg (kl _ _).le
     have hh:4*rem ts (stR ts k (n,false)).2+2≤k∨(stR ts k (n,false)).2.2=true∧1≤k:=by
      by_cases hr:(stR ts k (n,false)).2.2=true
      ·exact .inr ⟨hr,a6⟩
      ·refine .inl ?_
       have h2:=(hg.ok (by simpa using hr)).2
       have h3:=kl _ _ _ _ h2
       have h4:=pG _ _ _ _ h2
       unfold rem at h ⊢
       rw[if_neg a7] at h
       rw[if_neg hr]
       simp only at h h3 h4
       omega
     exact hg.bind (jK k (l++[(stR ts k (n,false)).1],(stR ts k (n,false)).2) hh)
end
theorem su:∀(k:Nat) (r:RQ (List Str)),4*rem ts r.2+1≤k→Goes r.2 (ngZ ts r.1 r.2.1) (ngR ts k r)
 |0,_,h=>absurd h a6
 |k+1,r,h=>by
   rw[ngR,EK]
   refine Goes.may (fun hi=>?_) fun _=>.ret
   have h1:=fS OX hi
   have h2:=nM (ts:=ts) (k:=1) a6 (q:=(r.2.1+1,false))
   exact Goes.at ((dE a6 (q:=(r.2.1+1,false))).bind (su k (_++[_],(bg ts 1 (r.2.1+1,false)).2) Oa))
theorem nl {a:Nat} (ha:a≤40) (q:Nat×Bool):4*rem ts q+a≤kE ts:=by unfold kE rem;split <;> omega
theorem lI (q:Nat×Bool):Goes q (nZ ts q.1) (nR ts q):=by
 rw[Ix]
 exact(dE a6).bind (su _ ([_],(bg ts 1 q).2) (nl a6 _))
theorem un:(nZ ts n).FwdE n:=fD.le
theorem nN:∀(k:Nat) (r:RQ (List Str)),4*rem ts r.2+1≤k→Goes r.2 (lZ ts r.1 r.2.1) (lR ts k r)
 |0,_,h=>absurd h a6
 |k+1,r,h=>by
   rw[lR,Iy]
   refine Goes.may (fun hi=>?_) fun _=>.ret
   have h1:=fS a7 hi
   have h2:=fQ (ts:=ts) (lI (ts:=ts) (r.2.1+1,false)) un
   have h3:=iu (ts:=ts) (s:=bz) (q:=(nR ts (r.2.1+1,false)).2)
   exact Goes.at ((lI (r.2.1+1,false)).bind (aO.bind (nN k (r.1++(nR ts (r.2.1+1,false)).1,ah ts bz (nR ts (r.2.1+1,false)).2) Oa)))
theorem Bn (q:Nat×Bool):Goes q (fnZ ts q.1) (fR ts q):=by
 unfold fnZ fR
 refine(dE a6).bind (aO.bind ?_)
 have hp:Goes (ah ts aW (bg ts 1 q).2) (if ae ts (ah ts aW (bg ts 1 q).2).1=aT then .ok [] ((ah ts aW (bg ts 1 q).2).1+1) else(nZ ts (ah ts aW (bg ts 1 q).2).1).bind fun ps n=>(bD ts aT n).bind fun _ n=>.ok ps n) (psR ts (ah ts aW (bg ts 1 q).2)):=by
  unfold psR
  exact Goes.may (fun _=>rfl) fun _=>(lI _).bind (aO.bind .ret)
 refine hp.bind (?_:Goes (psR ts (ah ts aW (bg ts 1 q).2)).2 _ _)
 have key:∀(x:Str) (p:RQ (List Str)),Goes p.2 ((bD ts [123] (if ae ts p.2.1=[119,111,114,100] then p.2.1+1 else p.2.1)).bind fun _ m=>(lZ ts [] m).bind fun ls m=>
    (ssZ ts [] m).bind fun b m=>.ok (Fn.mk x p.1 ls (decide (ae ts p.2.1=[119,111,114,100])) b) m)
   (Fn.mk x p.1 (lR ts (kE ts) ([],ah ts [123] (if isR ts [119,111,114,100] p.2 then(p.2.1+1,false) else p.2))).1 (decide (isR ts [119,111,114,100] p.2)) (ssR ts (kE ts) ([],(lR ts (kE ts) ([],ah ts [123] (if isR ts [119,111,114,100] p.2 then(p.2.1+1,false) else p.2))).2)).1,
    (ssR ts (kE ts) ([],(lR ts (kE ts) ([],ah ts [123] (if isR ts [119,111,114,100] p.2 then(p.2.1+1,false) else p.2))).2)).2):=by
  rintro x ⟨ps,n,w⟩
  cases w with
  |true=>
    refine .wrong ?_
    have h0:(if isR ts [119,111,114,100] (n,true) then(n+1,false) else(n,true))=(n,true):=if_neg fun h=>by cases h.1
    have h1:ah ts [123] (n,true)=(n,true):=by unfold ah;rw[if_neg (fun h=>by cases h.1)]
    have h2:(lR ts (kE ts) ([],n,true)).2=(n,true):=by
     have:=nN (ts:=ts) (kE ts) ([],n,true) (nl a6 _)
     unfold Goes at this;rwa [if_pos rfl] at this
    have h3:(ssR ts (kE ts) ([],n,true)).2=(n,true):=by
     have:=jK (ts:=ts) (kE ts) ([],n,true) (.inl (nl a6 _))
     unfold Goes at this;rwa [if_pos rfl] at this
    simp only[h0,h1,h2,h3]
  |false=>
    by_cases hw:ae ts n=[119,111,114,100]
    ·have hi:isR ts [119,111,114,100] (n,false):=⟨rfl,hw⟩
     simp only[if_pos hw,if_pos hi,w9 hi,w9 hw]
     exact Goes.at ((aO (q:=(n+1,false))).bind ((nN _ ([],ah ts [123] (n+1,false)) (nl a6 _)).bind ((jK _ ([],(lR ts (kE ts) ([],ah ts [123] (n+1,false))).2) (.inl (nl a6 _))).bind .ret)))
    ·have hi:¬isR ts [119,111,114,100] (n,false):=fun h=>hw h.2
     simp only[if_neg hw,if_neg hi,s6 hi,s6 hw]
     exact Goes.at ((aO (q:=(n,false))).bind ((nN _ ([],ah ts [123] (n,false)) (nl a6 _)).bind ((jK _ ([],(lR ts (kE ts) ([],ah ts [123] (n,false))).2) (.inl (nl a6 _))).bind .ret)))
 exact key _ _
theorem rc:∀(k:Nat) (r:RQ (List Str×List (Str×Int))),4*rem ts r.2+1≤k→Goes r.2 (hZ ts r.1.1 r.1.2 r.2.1) (hR ts k r)
 |0,_,h=>absurd h a6
 |k+1,r,h=>by
   rw[hR,Iz]
   by_cases hw:r.2.2=true
   ·rw[if_pos hw]
    obtain⟨⟨vs,ars⟩,n,w⟩:=r
    cases hw
    exact .wrong rfl
   rw[if_neg hw]
   refine Goes.may (fun hi=>?_) fun _=>?_
   ·have h1:=fS a7 hi
    have h2:=fQ (ts:=ts) (lI (ts:=ts) (r.2.1+1,false)) un
    have h3:=iu (ts:=ts) (s:=bz) (q:=(nR ts (r.2.1+1,false)).2)
    exact Goes.at ((lI (r.2.1+1,false)).bind (aO.bind (rc k ((r.1.1++(nR ts (r.2.1+1,false)).1,r.1.2),ah ts bz (nR ts (r.2.1+1,false)).2) Oa)))
   refine Goes.may (fun hi=>?_) fun _=>.ret
   have h1:=fS a7 hi
   have h2:=nM (ts:=ts) (k:=1) a6 (q:=(r.2.1+1,false))
   have h3:=iu (ts:=ts) (s:=[91]) (q:=(bg ts 1 (r.2.1+1,false)).2)
   have h4:=nM (ts:=ts) (k:=2) a6 (q:=ah ts [91] (bg ts 1 (r.2.1+1,false)).2)
   have h5:=iu (ts:=ts) (s:=[93]) (q:=(bg ts 2 (ah ts [91] (bg ts 1 (r.2.1+1,false)).2)).2)
   have h6:=iu (ts:=ts) (s:=bz) (q:=ah ts [93] (bg ts 2 (ah ts [91] (bg ts 1 (r.2.1+1,false)).2)).2)
   exact Goes.at ((dE a6 (q:=(r.2.1+1,false))).bind (aO.bind ((dE a6).bind (aO.bind (aO.bind (rc k ((r.1.1,r.1.2++[((bg ts 1 (r.2.1+1,false)).1.text,((bg ts 2 (ah ts [91] (bg ts 1 (r.2.1+1,false)).2)).1.num:Int))]),ah ts bz (ah ts [93] (bg ts 2 (ah ts [91] (bg ts 1 (r.2.1+1,false)).2)).2)) Oa))))))
theorem oQ (hs:s≠[]):(bD ts s n).In ts.length n:=by
 rw[←cW]
 exact bA (by simpa using hs)
theorem IB:(nZ ts n).In ts.length n:=kn
theorem Bo:(fnZ ts n).Fwd n:=by
 refine PR.bind_fwd bt fun t m1=>PR.bind_fwdE ke fun _ m2=>PR.bind_fwdE ?_ fun ps m3=>?_
 ·split
  ·exact PR.fwdE_ok a6
  ·exact PR.bind_fwdE un fun _ _=>PR.bind_fwdE ke fun _ _=>PR.fwdE_ok (b9 _)
 ·intro a m e
  have h:∀x,m3≤x→((bD ts [123] x).bind fun _ m=>(lZ ts [] m).bind fun ls m=>(ssZ ts [] m).bind fun b m=>.ok (Fn.mk t.text ps ls (decide (ae ts m3=[119,111,114,100])) b) m).FwdE m3:=fun x hx a m e=>by
   have:=PR.bind_fwdE ke (fun _ q=>PR.bind_fwdE (gJ (k:=kk ts) (l:=[])) fun ls q=>PR.bind_fwdE (jb (kk ts) [] q).le fun b q=>PR.fwdE_ok (b9 _)) a m e
   omega
  exact h _ (by split <;> omega) a m e
theorem EN:(fnZ ts n).In ts.length n:=by
 refine PR.bind_in eX fun t m1=>PR.bind_in (oQ Oq) fun _ m2=>PR.bind_in ?_ fun ps m3=>?_
 ·split
  ·rename_i h;have:=aH h Oy;exact PR.in_ok a6
  ·exact PR.bind_in IB fun _ _=>PR.bind_in (oQ Oy) fun _ _=>PR.in_here
 ·intro a m e
  have h:∀x,x≤max m3 ts.length→((bD ts [123] x).bind fun _ m=>(lZ ts [] m).bind fun ls m=>(ssZ ts [] m).bind fun b m=>.ok (Fn.mk t.text ps ls (decide (ae ts m3=[119,111,114,100])) b) m).In ts.length m3:=fun x hx a m e=>by
   have:=PR.bind_in (oQ a7) (fun _ q=>PR.bind_in kX fun ls q=>PR.bind_in (km (kk ts) [] q) fun b q=>PR.in_here) a m e
   omega
  refine h _ ?_ a m e
  split
  ·rename_i h;have:=aH h a7;omega
  ·omega
theorem sw:∀(k:Nat) (l:List Fn) (q:Nat×Bool),rem ts q+1≤k→Goes q ((fnZ ts q.1).bind fun f n=>fsZ ts (l++[f]) n) (fsR ts k (l,q))
 |0,_,_,h=>absurd h a6
 |k+1,l,(n,w),h=>by
   rw[fsR]
   cases w with
   |true=>rw[if_pos rfl];exact .wrong rfl
   |false=>
     rw[if_neg (c:=((l,n,false):RQ (List Fn)).2.2=true) a7]
     simp only
     have hg:=Bn (ts:=ts) (n,false)
     by_cases hw:(fR ts (n,false)).2.2=true
     ·rw[if_pos (.inl hw)]
      refine hg.bind ?_
      generalize fR ts (n,false)=r at hw
      obtain⟨f,m,v⟩:=r
      cases hw
      exact .wrong rfl
     have hv:(fR ts (n,false)).2.2=false:=by simpa using hw
     have he:=(hg.ok hv).2
     have h1:=Bo _ _ he
     have h2:=EN _ _ he
     simp only at h1 h2
     by_cases hl:(fR ts (n,false)).2.1=ts.length
     ·rw[if_pos (.inr hl)]
      refine hg.bind ?_
      rw[yc,if_neg a6]
      exact .ret
     ·rw[if_neg (fun x=>x.elim hw hl)]
      refine hg.bind ?_
      rw[yc,if_pos a6,Db,PR.bind_assoc]
      refine aO.bind (sw k (l++[_]) _ ?_)
      unfold rem ah at *
      rw[if_neg a7] at h
      simp only at h
      split
      ·rw[if_neg a7];simp only;omega
      ·rw[if_pos rfl];omega
theorem JZ:Goes (0,false) (jY ts (kk ts) 0) (pR ts):=by
 rw[yd]
 unfold pR
 refine(rc (ts:=ts) (kE ts) (([],[]),0,false) (nl a6 _)).bind ?_
 have:=(sw (ts:=ts) (kE ts) [] (ah ts [102,117,110,99] (hR ts (kE ts) (([],[]),0,false)).2) OZ)
 have h2:=aO.bind (f:=fun _ n=>(fnZ ts n).bind fun f n=>fsZ ts ([]++[f]) n) this
 have h3:=h2.bind (f:=fun fs n=>PR.ok (Prog.mk (hR ts (kE ts) (([],[]),0,false)).1.1 (hR ts (kE ts) (([],[]),0,false)).1.2 fs) n) .ret
 simp only[PR.bind_assoc] at h3 ⊢
 simp only[Db,PR.bind_assoc]
 exact h3
end
end
end
end Go.Src

/- A part of the proof; no conditions. -/
import Derived.Test.YtfcgadnbdcnnlaaGreatDoorPart10
set_option linter.unusedSimpArgs false
set_option linter.unusedVariables false
namespace Go.Proofs.YtfcgadnbdcnnlaaGreatDoor
open Go Go.Am Go.Asm Go.Mach
set_option maxHeartbeats 4000000 in
theorem DecodeR_A (w:Nat) (hw:w < 4294967296):PureR Tryz.prog 282 [iv .u32 w] (· = decV w):=by
 refine pure_of_wpR Tt_ok mixed Tryz.func282 rfl (by rfl) [.cell 2 147,.tmp 3] rfl (by kernel_rfl) (by simp [Tryz.ntmps282]) fun g=>?_
 have d1:((w:Nat):Int).tdiv 16777216 = ((w / 16777216:Nat):Int):=rfl
 have d2:((w:Nat):Int).tdiv 1048576 = ((w / 1048576:Nat):Int):=rfl
 have d3:((w:Nat):Int).tdiv 65536 = ((w / 65536:Nat):Int):=rfl
 have m1:∀ x:Nat,((x:Nat):Int).tmod 16 = ((x % 16:Nat):Int):=fun _=>rfl
 have m2:((w:Nat):Int).tmod 65536 = ((w % 65536:Nat):Int):=rfl
 have c64:∀ x:Nat,x < 4294967296 → IntKind.i64.wrap ((x:Nat):Int) = ((x:Nat):Int):=fun x hx=>by rw [wrap_i64] <;> omega
 have u1:=w32_lt (n:=w / 16777216) (by omega)
 have u2:=w32_lt (n:=w / 1048576) (by omega)
 have u3:=w32_lt (n:=w / 65536) (by omega)
 have u4:=w32_lt (n:=w / 1048576 % 16) (by omega)
 have u5:=w32_lt (n:=w / 65536 % 16) (by omega)
 have u6:=w32_lt (n:=w % 65536) (by omega)
 simp only [go_sem,↓reduceIte,d1,d2,d3,m1,m2,u1,u2,u3,u4,u5,u6,c64 (w / 16777216) (by omega),c64 (w / 1048576 % 16) (by omega),c64 (w / 65536 % 16) (by omega),c64 (w % 65536) (by omega),buildA]
 refine hook_call rfl (by simp only [go_sem,↓reduceIte]; exact RightR_A (w / 16777216:Nat) (w / 1048576 % 16:Nat) (w / 65536 % 16:Nat) (w % 65536:Nat)) (by simp only [go_sem,↓reduceIte]; rfl) ?_
 rintro _ rfl
 unfold decV
 cases hR:rightI (w / 16777216:Nat) (w / 1048576 % 16:Nat) (w / 65536 % 16:Nat) (w % 65536:Nat)
 ·simp only [go_sem,↓reduceIte,buildA]
  exact ⟨_,frz_ins,rfl⟩
 ·simp only [go_sem,↓reduceIte,buildA]
  exact ⟨_,frz_ins,rfl⟩
set_option maxHeartbeats 4000000 in
theorem wordR_A (s:Str) (k:Nat) (h:k + 4 ≤ s.length) (hs:s.length ≤ 1000000000):PureR Tryz.prog 69 [sv s,iv .i64 k] (· = iv .u32 (wordAt s k:Nat)):=by
 refine pure_of_wp Tt_ok mixed Tryz.func69 rfl (by rfl) [4] rfl (by kernel_rfl) (by simp [Tryz.ntmps69]) fun g=>?_
 have ha:=getD_of (s:=s) (k:=k) (by omega)
 have hb:=getD_of (s:=s) (k:=k + 1) (by omega)
 have hc:=getD_of (s:=s) (k:=k + 2) (by omega)
 have hd:=getD_of (s:=s) (k:=k + 3) (by omega)
 unfold wordAt
 generalize s.getD k 0 = a at ha ⊢
 generalize s.getD (k + 1) 0 = b at hb ⊢
 generalize s.getD (k + 2) 0 = c at hc ⊢
 generalize s.getD (k + 3) 0 = d at hd ⊢
 have la:=a.toNat_lt
 have lb:=b.toNat_lt
 have lc:=c.toNat_lt
 have ld:=d.toNat_lt
 have ia:IntKind.i64.wrap ((k:Int) + 1) = ((k + 1:Nat):Int):=by rw [wrap_i64] <;> omega
 have ib:IntKind.i64.wrap ((k:Int) + 2) = ((k + 2:Nat):Int):=by rw [wrap_i64] <;> omega
 have ic:IntKind.i64.wrap ((k:Int) + 3) = ((k + 3:Nat):Int):=by rw [wrap_i64] <;> omega
 have p0:(0:Int) ≤ (k:Int):=by omega
 have p1:(0:Int) ≤ ((k + 1:Nat):Int):=by omega
 have p2:(0:Int) ≤ ((k + 2:Nat):Int):=by omega
 have p3:(0:Int) ≤ ((k + 3:Nat):Int):=by omega
 have e1:IntKind.u32.wrap (256 * ((b.toNat:Nat):Int)) = ((256 * b.toNat:Nat):Int):=by rw [IntKind.wrap_u32]; omega
 have e2:IntKind.u32.wrap (65536 * ((c.toNat:Nat):Int)) = ((65536 * c.toNat:Nat):Int):=by rw [IntKind.wrap_u32]; omega
 have e3:IntKind.u32.wrap (16777216 * ((d.toNat:Nat):Int)) = ((16777216 * d.toNat:Nat):Int):=by rw [IntKind.wrap_u32]; omega
 have s1:IntKind.u32.wrap (((a.toNat:Nat):Int) + ((256 * b.toNat:Nat):Int)) = ((a.toNat + 256 * b.toNat:Nat):Int):=by rw [IntKind.wrap_u32]; omega
 have s2:IntKind.u32.wrap (((a.toNat + 256 * b.toNat:Nat):Int) + ((65536 * c.toNat:Nat):Int)) = ((a.toNat + 256 * b.toNat + 65536 * c.toNat:Nat):Int):=by rw [IntKind.wrap_u32]; omega
 have s3:IntKind.u32.wrap (((a.toNat + 256 * b.toNat + 65536 * c.toNat:Nat):Int) + ((16777216 * d.toNat:Nat):Int)) = ((a.toNat + 256 * b.toNat + 65536 * c.toNat + 16777216 * d.toNat:Nat):Int):=by rw [IntKind.wrap_u32]; omega
 simp only [go_sem,↓reduceIte]
 refine draw_intro (by decide +kernel) ?_
 simp only [go_sem,↓reduceIte,ia,ib,ic,p0,p1,p2,p3,Int.toNat_natCast,ha,hb,hc,hd,w32_lt (show a.toNat < 4294967296 by omega),w32_lt (show b.toNat < 4294967296 by omega),w32_lt (show c.toNat < 4294967296 by omega),w32_lt (show d.toNat < 4294967296 by omega),e1,e2,e3,s1,s2,s3]
 rfl
theorem u8ne {x:UInt8} {n:Nat} (h:¬ x = UInt8.ofNat n) (hn:n < 256):¬ ((x.toNat:Nat):Int) = (n:Nat):=fun e=>h (UInt8.toNat_inj.1 (by rw [UInt8.toNat_ofNat']; omega))
set_option maxHeartbeats 16000000 in
theorem ImgReadR_A (s:Str) (hs:s.length ≤ 1000000000):PureR Tryz.prog 39 [sv s] (· = readIV (imgRead s)):=by
 refine pure_of_wpR Tt_ok mixed Tryz.func39 rfl (by rfl) [.cell 2 54,.tmp 3] rfl (by kernel_rfl) (by simp [Tryz.ntmps39]) fun g=>?_
 have bad:imgRead s = none → readIV (imgRead s) = .tup [imgV ([],0),iv .i64 7]:=fun h=>by rw [h]; rfl
 by_cases h1:s.length < 12
 ·have hi:(s.length:Int) < 12:=by omega
  rw [bad (by unfold imgRead; rw [if_pos (.inl h1)])]
  simp only [go_sem,↓reduceIte,hi,buildA]
  exact ⟨_,frz_img,rfl⟩
 have hi:¬ (s.length:Int) < 12:=by omega
 obtain ⟨x0,g0⟩:=getq (l:=s) (k:=0) (by omega)
 obtain ⟨x1,g1⟩:=getq (l:=s) (k:=1) (by omega)
 obtain ⟨x2,g2⟩:=getq (l:=s) (k:=2) (by omega)
 obtain ⟨x3,g3⟩:=getq (l:=s) (k:=3) (by omega)
 have ht:=take4 g0 g1 g2 g3
 have hbad:¬ (x0 = 83 ∧ x1 = 69 ∧ x2 = 69 ∧ x3 = 68) → imgRead s = none:=fun h=>by
  unfold imgRead
  rw [if_pos (.inr (.inl (by rw [ht]; intro e; simp only [List.cons.injEq,and_true] at e; exact h e)))]
 by_cases c0:x0 = 83
 case neg =>
  rw [bad (hbad (by simp [c0]))]
  have c0:¬ ((x0.toNat:Nat):Int) = 83:=u8ne (n:=83) c0 (by decide)
  simp only [go_sem,↓reduceIte,hi,g0,g1,g2,g3,c0,buildA]
  exact ⟨_,frz_img,rfl⟩
 by_cases c1:x1 = 69
 case neg =>
  rw [bad (hbad (by simp [c1]))]
  have c0:((x0.toNat:Nat):Int) = 83:=by rw [c0]; rfl
  have c1:¬ ((x1.toNat:Nat):Int) = 69:=u8ne (n:=69) c1 (by decide)
  simp only [go_sem,↓reduceIte,hi,g0,g1,g2,g3,c0,c1,buildA]
  exact ⟨_,frz_img,rfl⟩
 by_cases c2:x2 = 69
 case neg =>
  rw [bad (hbad (by simp [c2]))]
  have c0:((x0.toNat:Nat):Int) = 83:=by rw [c0]; rfl
  have c1:((x1.toNat:Nat):Int) = 69:=by rw [c1]; rfl
  have c2:¬ ((x2.toNat:Nat):Int) = 69:=u8ne (n:=69) c2 (by decide)
  simp only [go_sem,↓reduceIte,hi,g0,g1,g2,g3,c0,c1,c2,buildA]
  exact ⟨_,frz_img,rfl⟩
 by_cases c3:x3 = 68
 case neg =>
  rw [bad (hbad (by simp [c3]))]
  have c0:((x0.toNat:Nat):Int) = 83:=by rw [c0]; rfl
  have c1:((x1.toNat:Nat):Int) = 69:=by rw [c1]; rfl
  have c2:((x2.toNat:Nat):Int) = 69:=by rw [c2]; rfl
  have c3:¬ ((x3.toNat:Nat):Int) = 68:=u8ne (n:=68) c3 (by decide)
  simp only [go_sem,↓reduceIte,hi,g0,g1,g2,g3,c0,c1,c2,c3,buildA]
  exact ⟨_,frz_img,rfl⟩
 have ht':s.take 4 = [83,69,69,68]:=by rw [ht,c0,c1,c2,c3]
 have c0:((x0.toNat:Nat):Int) = 83:=by rw [c0]; rfl
 have c1:((x1.toNat:Nat):Int) = 69:=by rw [c1]; rfl
 have c2:((x2.toNat:Nat):Int) = 69:=by rw [c2]; rfl
 have c3:((x3.toNat:Nat):Int) = 68:=by rw [c3]; rfl
 have hI:=imgRead_ref (s:=s) (by omega) ht'
 have hW:=wordR_A s
 have hat:∀ k,k + 4 ≤ s.length - 12 → True:=fun _ _=>trivial
 have hx:∀ k,12 + 4 * k + 4 ≤ s.length → (wordsL (s.drop 12))[k]? = some (wordAt s (12 + 4 * k)):=fun k hk=>wordsL_at hk
 have hxl:(wordsL (s.drop 12)).length = (s.length - 12) / 4:=by rw [wordsL_len,List.length_drop]
 have hn:=wordAt_lt s 4
 have hd:=wordAt_lt s 8
 have hw4:=hW 4 (by omega) hs
 have hw8:=hW 8 (by omega) hs
 rw [hI]
 rw [hI] at bad
 clear hI hbad ht ht'
 generalize wordAt s 4 = n at *
 generalize wordAt s 8 = d at *
 generalize wordsL (s.drop 12) = xs at *
 simp only [go_sem,↓reduceIte,hi,g0,g1,g2,g3,c0,c1,c2,c3]
 refine hook_call rfl (by simp only [go_sem,↓reduceIte]; exact hw4) (by simp only [go_sem,↓reduceIte]; rfl) ?_
 rintro _ rfl
 simp only [go_sem,↓reduceIte]
 refine hook_call rfl (by simp only [go_sem,↓reduceIte]; exact hw8) (by simp only [go_sem,↓reduceIte]; rfl) ?_
 rintro _ rfl
 have k1:IntKind.i64.wrap ((n:Nat):Int) = ((n:Nat):Int):=by rw [wrap_i64] <;> omega
 have k2:IntKind.i64.wrap (4 * (n:Int)) = ((4 * n:Nat):Int):=by rw [wrap_i64] <;> omega
 have k3:IntKind.i64.wrap (12 + ((4 * n:Nat):Int)) = ((12 + 4 * n:Nat):Int):=by rw [wrap_i64] <;> omega
 have k4:IntKind.i64.wrap ((d:Nat):Int) = ((d:Nat):Int):=by rw [wrap_i64] <;> omega
 by_cases b1:16384 < n
 ·rw [if_pos (.inl b1)]
  have b1:(16384:Int) < (n:Int):=by omega
  simp only [go_sem,↓reduceIte,b1,buildA]
  exact ⟨_,frz_img,rfl⟩
 have b1i:¬ (16384:Int) < (n:Int):=by omega
 by_cases b2:32768 < d
 ·rw [if_pos (.inr (.inl b2))]
  have b2:(32768:Int) < (d:Int):=by omega
  simp only [go_sem,↓reduceIte,b1i,b2,buildA]
  exact ⟨_,frz_img,rfl⟩
 have b2i:¬ (32768:Int) < (d:Int):=by omega
 by_cases b3:s.length = 12 + 4 * n
 case neg =>
  rw [if_pos (.inr (.inr b3))]
  have b3:¬ (s.length:Int) = ((12 + 4 * n:Nat):Int):=by omega
  simp only [go_sem,↓reduceIte,b1i,b2i,k1,k2,k3,b3,buildA]
  exact ⟨_,frz_img,rfl⟩
 have b3i:(s.length:Int) = ((12 + 4 * n:Nat):Int):=by omega
 rw [if_neg (by omega)]
 have hxn:xs.length = n:=by omega
 simp only [go_sem,↓reduceIte,b1i,b2i,k1,k2,k3,b3i,k4,buildA]
 refine loop_intro (fun N st=>∃ (k:Nat) (cc:C),N + k = n ∧ st.f 0 = sv s ∧ st.f 4 = iv .u32 n ∧ st.f 7 = iv .i64 (k:Nat) ∧ st.f 2 = .one (.ptr 2 (nxC 55 (g 2)) 0) ∧ st.gen 2 = nxC 55 (g 2) ∧ st.obj 2 = some [.d .nsl,.d (.int .i64 0)] ∧ st.f 6 = .one (.ptr 6 (st.gen 6) 0) ∧ st.obj 6 = some [cc,.d (.int .i64 d)] ∧
  ((k = 0 ∧ cc = .d .nsl) ∨ (0 < k ∧ cc = .osl 69 (st.gen 69) 1 0 k ∧ st.obj 69 = some (wordC (xs.take k))))) n ?_ ?_
 ·refine ⟨0,.d .nsl,rfl,?_⟩
  simp only [go_sem,↓reduceIte]
  exact .inl trivial
 rintro N f g' ob ⟨k,cc,hk,q0,q4,q7,q2,q2g,q2o,q6,q6o,qc⟩
 simp only at q0 q4 q7 q2 q2g q2o q6 q6o qc
 have hw:=wrap_succ (k:=k) (by omega)
 by_cases hlt:k < n
 ·have hlti:(k:Int) < (n:Int):=by omega
  have k5:IntKind.i64.wrap (4 * (k:Int)) = ((4 * k:Nat):Int):=by rw [wrap_i64] <;> omega
  have k6:IntKind.i64.wrap (12 + ((4 * k:Nat):Int)) = ((12 + 4 * k:Nat):Int):=by rw [wrap_i64] <;> omega
  have hwk:=hW (12 + 4 * k) (by omega) hs
  have hxk:=hx k (by omega)
  have hlw:=wordAt_lt s (12 + 4 * k)
  generalize wordAt s (12 + 4 * k) = w at hwk hxk hlw
  have hnx:xs.take (k + 1) = xs.take k ++ [w]:=by rw [List.take_add_one,hxk]; rfl
  have htl:(xs.take k).length = k:=by rw [List.length_take]; omega
  simp only [go_sem,↓reduceIte,q0,q4,q7,k1,hlti]
  refine draw_det Tt_ok mixed [68,69,6] [([6],[0],[],false),([61],[0],[],false),([0],[],[],false),([7],[],[],false),([64],[],[],false),([65],[],[],false),([63,66],[],[],false),([67],[],[0],false),([62,68],[],[1],false),([6],[],[],false),([70,69],[],[],true)] 3 (by decide +kernel) rfl (by decide) ?_
  simp only [go_sem,↓reduceIte]
  iterate 6 (apply det_pure; · (intro fa ga oa K' hK; simp only [go_sem,↓reduceIte,q0,q7,q6,q6o,k5,k6] at hK ⊢; exact hK))
  refine det_pure (v:=iv .u32 (w:Nat)) (fun fa ga oa K' hK=>?_) ?_
  ·simp only [go_sem,↓reduceIte] at hK ⊢
   refine hook_call (k:=bx K') rfl (by simp only [go_sem,↓reduceIte]; exact hwk) (by simp only [go_sem,↓reduceIte]; rfl) ?_
   rintro _ rfl
   simp only [go_sem,↓reduceIte]
   exact hK
  (apply det_new; · (intro fa ga oa K' hK; simp only [go_sem,↓reduceIte,elemTy] at hK ⊢; exact hK))
  rcases qc with ⟨hk0,rfl⟩ | ⟨hk0,rfl,qo⟩
  ·(apply det_new; · (intro fa ga oa K' hK; simp only [go_sem,↓reduceIte,elemTy] at hK ⊢; exact ⟨⟨by decide,by decide⟩,hK⟩))
   (apply det_pure; · (intro fa ga oa K' hK; simp only [go_sem,↓reduceIte,q6,q6o] at hK ⊢; exact hK))
   apply det_last
   intro K' hK'
   simp only [go_sem,↓reduceIte,q6,q6o]
   refine hK' _ ?_
   clear hK' K'
   simp only [go_sem,↓reduceIte,q7,hw]
   refine round_end (N - 1) (by omega) ⟨k + 1,.osl 69 (nxC 23 (g' 69)) 1 0 1,by omega,?_⟩
   simp only [go_sem,↓reduceIte,q0,q4,q2,q2g,q2o,q6]
   subst hk0
   refine .inr ⟨by omega,rfl,?_⟩
   rw [hnx]; rfl
  ·have hcl:(wordC (xs.take k)).length = k:=by unfold wordC; rw [List.length_map,htl]
   (apply det_new; · (intro fa ga oa K' hK; simp only [go_sem,↓reduceIte,qo,elemTy] at hK ⊢; exact ⟨by omega,⟨by decide,by omega⟩,hK⟩))
   (apply det_pure; · (intro fa ga oa K' hK; simp only [go_sem,↓reduceIte,q6,q6o] at hK ⊢; exact hK))
   apply det_last
   intro K' hK'
   simp only [go_sem,↓reduceIte,q6,q6o]
   refine hK' _ ?_
   clear hK' K'
   simp only [go_sem,↓reduceIte,q7,hw]
   refine round_end (N - 1) (by omega) ⟨k + 1,.osl 69 (nxC (apC 22 (g' 69) 0) (g' 69)) 1 0 (k + 1),by omega,?_⟩
   simp only [go_sem,↓reduceIte,q0,q4,q2,q2g,q2o,q6]
   refine .inr ⟨by omega,?_⟩
   rw [hnx,List.take_of_length_le (by omega)]; unfold wordC; simp
 ·have hlti:¬ (k:Int) < (n:Int):=by omega
  obtain rfl:k = n:=by omega
  rw [List.take_of_length_le (by omega)] at qc
  simp only [go_sem,↓reduceIte,q0,q4,q7,k1,hlti,q6,q6o,q2,q2g,q2o]
  refine ⟨_,frz_img2 (code:=xs) (d:=d) (n:=0) ?_,rfl⟩
  rcases qc with ⟨hk0,rfl⟩ | ⟨hk0,rfl,qo⟩
  ·obtain rfl:xs = []:=List.eq_nil_of_length_eq_zero (by omega)
   exact .d .nsl
  ·exact frz_map (cells:=wordC xs) (off:=0) rfl (by simp [upd,qo]) xs (fun n=>.int .u32 (n:Nat)) (fun _=>rfl) hxn (fun j a h=>by rw [Nat.zero_add]; unfold wordC; rw [List.getElem?_map,h]; rfl) (by unfold wordC; rw [List.length_map]; omega)
end Go.Proofs.YtfcgadnbdcnnlaaGreatDoor

namespace Go.Proofs.YtfcgadnbdcnnlaaGreatDoor
open Go Go.Am Go.Asm Go.Mach
set_option maxHeartbeats 4000000 in
theorem StartR_A (code:List Nat) (d:Nat) (hd:d ≤ 32768):PureR Tryz.prog 71 [imgV (code,d)] (· = stV (Mach.start d)):=by
 refine pure_of_wpR Tt_ok mixed Tryz.func71 rfl (by rfl) [.cell 2 137] rfl (by kernel_rfl) (by simp [Tryz.ntmps71]) fun g=>?_
 have hdi:(d:Int) ≤ 32768:=by omega
 unfold imgV
 by_cases h0:d = 0
 ·subst h0
  simp only [go_sem,↓reduceIte]
  exact ⟨_,frz_state (m:=Mach.start 0) (.d .nsl) rfl,rfl⟩
 ·have h0i:(0:Int) < (d:Int):=by omega
  simp only [go_sem,↓reduceIte,h0i,hdi]
  refine ⟨Nat.le_refl _,by omega,by omega,_,frz_state (m:=Mach.start d) ?_ rfl,rfl⟩
  exact frz_code (code:=List.replicate d 0) (by simp [upd]) (by simp [upd]) (by simp)
def fetV:Option Nat → AV
 | some x=>.tup [iv .u32 (x:Nat),bv true]
 | none=>.tup [iv .u32 0,bv false]
set_option maxHeartbeats 4000000 in
theorem fetch_A (l:List Nat) (b c:Nat) (hl:l.length ≤ 1000000) (hc:c < 65536):PureR Tryz.prog 284 [.one (.d (wordsD l)),iv .u32 b,iv .i64 c] (· = fetV (l[(b + c) % 4294967296]?)):=by
 refine pure_of_wp Tt_ok mixed Tryz.func284 rfl (by rfl) [6,7] rfl (by kernel_rfl) (by simp [Tryz.ntmps284]) fun g=>?_
 have e1:=w32_lt (n:=c) (by omega)
 have e2:=w32_add b c
 have hlt:(b + c) % 4294967296 < 4294967296:=Nat.mod_lt _ (by decide)
 generalize (b + c) % 4294967296 = at' at e2 hlt ⊢
 have e3:=w64 (n:=at') (by omega)
 have e4:=w64 (n:=l.length) (by omega)
 have h0:(0:Int) ≤ (at':Int):=by omega
 unfold wordsD
 by_cases h:at' < l.length
 ·obtain ⟨x,hx⟩:=getq h
  have hn:¬ (l.length:Int) ≤ (at':Int):=by omega
  have hg:(l.map fun x=>[D.int .u32 (x:Nat)])[at']? = some [.int .u32 (x:Nat)]:=by rw [List.getElem?_map,hx]; rfl
  rw [hx]
  simp only [go_sem,↓reduceIte,e1,e2,e3,e4,hn,h0,hg,List.length_map,fetV]
 ·have hy:(l.length:Int) ≤ (at':Int):=by omega
  rw [List.getElem?_eq_none (by omega)]
  simp only [go_sem,↓reduceIte,e1,e2,e3,e4,hy,List.length_map,fetV]
end Go.Proofs.YtfcgadnbdcnnlaaGreatDoor

namespace Go.Proofs.YtfcgadnbdcnnlaaGreatDoor
open Go Go.Am Go.Asm Go.Mach
def okW (w:Nat):Bool:=okI (w / 16777216) (w / 1048576 % 16) (w / 65536 % 16) (w % 65536)
def insW (w:Nat):List D:=if okW w = true then [.int .i64 (w / 16777216:Nat),.int .i64 (w / 1048576 % 16:Nat),.int .i64 (w / 65536 % 16:Nat),.int .i64 (w % 65536:Nat)] else [.int .i64 0,.int .i64 0,.int .i64 0,.int .i64 0]
theorem insW_len (w:Nat):(insW w).length = 4:=by unfold insW; split <;> rfl
theorem insW_norm (w:Nat):∀ x ∈ insW w,normD x = x:=fun x hx=>by
 unfold insW at hx
 split at hx <;> simp only [List.mem_cons,List.not_mem_nil,or_false] at hx <;> rcases hx with rfl | rfl | rfl | rfl <;> rfl
def insCs (l:List Nat):List C:=l.flatMap fun w=>(insW w).map .d
def okCs (l:List Nat):List C:=l.map fun w=>.d (.bool (okW w))
theorem okCs_flat (l:List Nat):okCs l = l.flatMap fun w=>([D.bool (okW w)]).map .d:=by
 unfold okCs
 induction l with
 | nil=>rfl
 | cons a l ih=>simpa using ih
theorem insCs_len:∀ l:List Nat,(insCs l).length = 4 * l.length
 | []=>rfl
 | w :: l=>by
   have ih:=insCs_len l
   unfold insCs at ih ⊢
   rw [List.flatMap_cons,List.length_append,List.length_map,insW_len,ih]; simp only [List.length_cons]; omega
theorem insCs_snoc (l:List Nat) (w:Nat):insCs (l ++ [w]) = insCs l ++ (insW w).map .d:=by unfold insCs; rw [List.flatMap_append]; simp
theorem okCs_snoc (l:List Nat) (w:Nat):okCs (l ++ [w]) = okCs l ++ [.d (.bool (okW w))]:=by unfold okCs; simp
theorem set4 {pre rest:List C} {p:Nat} (h:pre.length = p) (x0 x1 x2 x3 a b c d:C):((((pre ++ x0 :: x1 :: x2 :: x3 :: rest).set p a).set (p + 1) b).set (p + 1 + 1) c).set (p + 1 + 1 + 1) d = (pre ++ [a,b,c,d]) ++ rest:=by
 subst h
 rw [show pre.length + 1 + 1 = pre.length + 2 from rfl,show pre.length + 2 + 1 = pre.length + 3 from rfl]
 simp
theorem set1 {pre rest:List C} {p:Nat} (h:pre.length = p) (x0 a:C):(pre ++ x0 :: rest).set p a = (pre ++ [a]) ++ rest:=by
 subst h
 simp
def decR (w:Nat):AV:=.tup [.agg ((insW w).map .d),iv .i64 (if okW w = true then 0 else 7)]
theorem decV_eq (w:Nat):decV w = decR w:=by
 unfold decV decR insW okW okI
 split <;> rfl
set_option maxHeartbeats 16000000 in
theorem Code_A (code:List Nat) (d:Nat) (hl:code.length ≤ 1000000) (hcw:∀ w ∈ code,w < 4294967296):PureR Tryz.prog 181 [imgV (code,d)] (· = .tup [.one (.d (.sl (code.map insW))),.one (.d (.sl (code.map fun w=>[.bool (okW w)])))]):=by
 refine pure_of_wpR Tt_ok mixed Tryz.func181 rfl (by rfl) [.tmp 2,.tmp 3] rfl (by kernel_rfl) (by simp [Tryz.ntmps181]) fun g=>?_
 have h0:(0:Int) ≤ (code.length:Int):=by omega
 unfold imgV codeD
 simp only [go_sem,↓reduceIte,List.length_map,h0]
 refine ⟨Nat.le_refl _,by omega,by omega,Nat.le_refl _,by omega,by omega,?_⟩
 refine loop_intro (fun n st=>∃ k:Nat,n + k = code.length ∧ st.f 1 = .one (.ptr 1 (nxC 55 (g 1)) 0) ∧ st.gen 1 = nxC 55 (g 1) ∧ st.obj 1 = some [.d (.sl (code.map fun n=>[.int .u32 (n:Nat)])),.d (.int .i64 (d:Nat))] ∧ st.f 6 = iv .i64 k ∧
  st.f 4 = .one (.osl 12 (st.gen 12) 4 0 code.length) ∧ st.obj 12 = some (insCs (code.take k) ++ (List.replicate n [C.d (.int .i64 0),.d (.int .i64 0),.d (.int .i64 0),.d (.int .i64 0)]).flatten) ∧
  st.f 5 = .one (.osl 16 (st.gen 16) 1 0 code.length) ∧ st.obj 16 = some (okCs (code.take k) ++ (List.replicate n [C.d (.bool false)]).flatten)) code.length ?_ ?_
 ·refine ⟨0,rfl,?_⟩
  simp only [go_sem,↓reduceIte]
  try exact ⟨rfl,rfl⟩
 rintro n f g' ob ⟨k,hk,q1,q1g,q1o,q6,q4,q4o,q5,q5o⟩
 simp only at q1 q1g q1o q6 q4 q4o q5 q5o
 have hw:=wrap_succ (k:=k) (by omega)
 cases n with
 | zero =>
   obtain rfl:k = code.length:=by omega
   have hno:¬ (code.length:Int) < (code.length:Int):=by omega
   rw [List.take_of_length_le (Nat.le_refl _)] at q4o q5o
   simp only [List.replicate_zero,List.flatten_nil,List.append_nil] at q4o q5o
   simp only [go_sem,↓reduceIte,q1,q1g,q1o,q6,q4,q5,hno,List.length_map]
   exact ⟨_,⟨_,⟨_,_,rfl,frzOne (frz_rows (cells:=insCs code) rfl code insW (by simp [upd,q4o]) rfl (fun a _=>insW_norm a) (fun a _=>insW_len a) rfl),_,_,rfl,frzOne (frz_rows (cells:=okCs code) rfl code (fun w=>[.bool (okW w)]) (by simp [upd,q5o]) (okCs_flat code) (fun a _ x hx=>by simp only [List.mem_singleton] at hx; subst hx; rfl) (fun _ _=>rfl) rfl),rfl⟩,rfl⟩,rfl⟩
 | succ m =>
   have hlt:k < code.length:=by omega
   have hlti:(k:Int) < (code.length:Int):=by omega
   have hk0:(0:Int) ≤ (k:Int):=by omega
   obtain ⟨w,hwk⟩:=getq hlt
   have hg:(code.map fun n=>[D.int .u32 (n:Nat)])[k]? = some [.int .u32 (w:Nat)]:=by rw [List.getElem?_map,hwk]; rfl
   have hD:=DecodeR_A w (hcw w (List.mem_of_getElem? hwk))
   rw [decV_eq] at hD
   have htk:code.take (k + 1) = code.take k ++ [w]:=by rw [List.take_add_one,hwk]; rfl
   have htl:(code.take k).length = k:=by rw [List.length_take]; omega
   have hpl:(insCs (code.take k)).length = k * 4:=by rw [insCs_len,htl]; omega
   have hol:(okCs (code.take k)).length = k:=by unfold okCs; rw [List.length_map,htl]
   have hs4:=fun x a b c d=>set4 (rest:=(List.replicate m [C.d (.int .i64 0),.d (.int .i64 0),.d (.int .i64 0),.d (.int .i64 0)]).flatten) hpl x x x x a b c d
   have hs1:=set1 (rest:=(List.replicate m [C.d (.bool false)]).flatten) hol (C.d (.bool false))
   rw [List.replicate_succ,List.flatten_cons] at q4o q5o
   have hi1:=insCs_snoc (code.take k) w
   have ho1:=okCs_snoc (code.take k) w
   rw [← htk] at hi1 ho1
   generalize insCs (code.take k) = A at q4o hpl hs4 hi1
   generalize okCs (code.take k) = B at q5o hol hs1 ho1
   unfold decR insW at hD
   unfold insW at hi1
   simp only [go_sem,↓reduceIte,q1,q1g,q1o,q6,hlti,hk0,hg,List.length_map]
   cases hR:okW w
   ·rw [hR,if_neg (by simp)] at hD
    rw [hR,if_neg (by simp)] at hi1
    rw [hR] at ho1
    simp only [List.map_cons,List.map_nil,Bool.false_eq_true,if_false] at hD hi1
    refine hook_call rfl (by simp only [go_sem,↓reduceIte]; exact hD) (by simp only [go_sem,↓reduceIte]; rfl) ?_
    rintro _ rfl
    simp only [go_sem,↓reduceIte,q1,q4,q4o,q5,q5o,q6,hk0,hlti]
    refine ⟨by simp only [List.length_append,List.length_cons,hpl]; omega,by simp only [List.length_append,List.length_cons,hol]; omega,?_⟩
    simp only [go_sem,↓reduceIte,q6,hw]
    refine round_end m (by omega) ⟨k + 1,by omega,?_⟩
    simp only [go_sem,↓reduceIte,q1,q1g,q1o,q4,q5]
    exact ⟨by rw [hs4,hi1],by rw [hs1,ho1]⟩
   ·rw [hR,if_pos rfl] at hD
    rw [hR,if_pos rfl] at hi1
    rw [hR] at ho1
    simp only [List.map_cons,List.map_nil,if_true] at hD hi1
    refine hook_call rfl (by simp only [go_sem,↓reduceIte]; exact hD) (by simp only [go_sem,↓reduceIte]; rfl) ?_
    rintro _ rfl
    simp only [go_sem,↓reduceIte,q1,q4,q4o,q5,q5o,q6,hk0,hlti]
    refine ⟨by simp only [List.length_append,List.length_cons,hpl]; omega,by simp only [List.length_append,List.length_cons,hol]; omega,?_⟩
    simp only [go_sem,↓reduceIte,q6,hw]
    refine round_end m (by omega) ⟨k + 1,by omega,?_⟩
    simp only [go_sem,↓reduceIte,q1,q1g,q1o,q4,q5]
    exact ⟨by rw [hs4,hi1],by rw [hs1,ho1]⟩
end Go.Proofs.YtfcgadnbdcnnlaaGreatDoor

namespace Go.Proofs.YtfcgadnbdcnnlaaGreatDoor
open Go Go.Am Go.Asm Go.Mach
structure WC (cs:List C) (code:List Nat) (inp:Str) (m:M) (mc xc cc:C):Prop where
 len:cs.length = 28
 c0:cs[0]? = some (.d (.int .i64 (m.pc:Nat)))
 rl:m.reg.length = 16
 rg:∀ a,a < 16 → cs[1 + a]? = some (.d (.int .u32 (m.r a:Nat)))
 c17:cs[17]? = some (mc)
 c18:cs[18]? = some (.d (.int .i64 (m.rd:Nat)))
 c19:cs[19]? = some (.d (.str []))
 c20:cs[20]? = some (.d (.int .i64 (m.steps:Nat)))
 c21:cs[21]? = some (.d (.int .i64 (m.fin:Nat)))
 c22:cs[22]? = some (xc)
 c23:cs[23]? = some (.d (.sl (code.map insW)))
 c24:cs[24]? = some (.d (.sl (code.map fun w=>[.bool (okW w)])))
 c25:cs[25]? = some (.d (codeD code))
 c26:cs[26]? = some (.d (.str inp))
 c27:cs[27]? = some (cc)
section
variable {cs:List C} {code:List Nat} {inp:Str} {m:M} {mc xc cc:C}
theorem WC.setReg (h:WC cs code inp m mc xc cc) {a:Nat} (ha:a < 16) (x:Nat):WC (cs.set (1 + a) (.d (.int .u32 (x:Nat)))) code inp { m with reg:=m.reg.set a x } mc xc cc:=by
 have hl:=h.len
 refine ⟨by simp [h.len],by rw [set_get (by omega)]; exact h.c0,by simp [h.rl],fun k hk=>?_,by rw [set_get (by omega)]; exact h.c17,by rw [set_get (by omega)]; exact h.c18,by rw [set_get (by omega)]; exact h.c19,by rw [set_get (by omega)]; exact h.c20,by rw [set_get (by omega)]; exact h.c21,by rw [set_get (by omega)]; exact h.c22,by rw [set_get (by omega)]; exact h.c23,by rw [set_get (by omega)]; exact h.c24,by rw [set_get (by omega)]; exact h.c25,by rw [set_get (by omega)]; exact h.c26,by rw [set_get (by omega)]; exact h.c27⟩
 rw [r_set h.rl ha]
 by_cases hk':k = a
 ·subst hk'; rw [if_pos rfl,set_same (by omega)]
 ·rw [if_neg hk',set_get (by omega)]; exact h.rg k hk
theorem WC.setPc (h:WC cs code inp m mc xc cc) (n:Nat):WC (cs.set 0 (.d (.int .i64 (n:Nat)))) code inp { m with pc:=n } mc xc cc :=
 ⟨by simp [h.len],set_same (by rw [h.len]; decide),h.rl,fun k hk=>by rw [set_get (by omega)]; exact h.rg k hk,by rw [set_get (by omega)]; exact h.c17,by rw [set_get (by omega)]; exact h.c18,by rw [set_get (by omega)]; exact h.c19,by rw [set_get (by omega)]; exact h.c20,by rw [set_get (by omega)]; exact h.c21,by rw [set_get (by omega)]; exact h.c22,by rw [set_get (by omega)]; exact h.c23,by rw [set_get (by omega)]; exact h.c24,by rw [set_get (by omega)]; exact h.c25,by rw [set_get (by omega)]; exact h.c26,by rw [set_get (by omega)]; exact h.c27⟩
theorem WC.setRd (h:WC cs code inp m mc xc cc) (n:Nat):WC (cs.set 18 (.d (.int .i64 (n:Nat)))) code inp { m with rd:=n } mc xc cc :=
 ⟨by simp [h.len],by rw [set_get (by omega)]; exact h.c0,h.rl,fun k hk=>by rw [set_get (by omega)]; exact h.rg k hk,by rw [set_get (by omega)]; exact h.c17,set_same (by rw [h.len]; decide),by rw [set_get (by omega)]; exact h.c19,by rw [set_get (by omega)]; exact h.c20,by rw [set_get (by omega)]; exact h.c21,by rw [set_get (by omega)]; exact h.c22,by rw [set_get (by omega)]; exact h.c23,by rw [set_get (by omega)]; exact h.c24,by rw [set_get (by omega)]; exact h.c25,by rw [set_get (by omega)]; exact h.c26,by rw [set_get (by omega)]; exact h.c27⟩
theorem WC.setSteps (h:WC cs code inp m mc xc cc) (n:Nat):WC (cs.set 20 (.d (.int .i64 (n:Nat)))) code inp { m with steps:=n } mc xc cc :=
 ⟨by simp [h.len],by rw [set_get (by omega)]; exact h.c0,h.rl,fun k hk=>by rw [set_get (by omega)]; exact h.rg k hk,by rw [set_get (by omega)]; exact h.c17,by rw [set_get (by omega)]; exact h.c18,by rw [set_get (by omega)]; exact h.c19,set_same (by rw [h.len]; decide),by rw [set_get (by omega)]; exact h.c21,by rw [set_get (by omega)]; exact h.c22,by rw [set_get (by omega)]; exact h.c23,by rw [set_get (by omega)]; exact h.c24,by rw [set_get (by omega)]; exact h.c25,by rw [set_get (by omega)]; exact h.c26,by rw [set_get (by omega)]; exact h.c27⟩
theorem WC.setFin (h:WC cs code inp m mc xc cc) (n:Nat):WC (cs.set 21 (.d (.int .i64 (n:Nat)))) code inp { m with fin:=n } mc xc cc :=
 ⟨by simp [h.len],by rw [set_get (by omega)]; exact h.c0,h.rl,fun k hk=>by rw [set_get (by omega)]; exact h.rg k hk,by rw [set_get (by omega)]; exact h.c17,by rw [set_get (by omega)]; exact h.c18,by rw [set_get (by omega)]; exact h.c19,by rw [set_get (by omega)]; exact h.c20,set_same (by rw [h.len]; decide),by rw [set_get (by omega)]; exact h.c22,by rw [set_get (by omega)]; exact h.c23,by rw [set_get (by omega)]; exact h.c24,by rw [set_get (by omega)]; exact h.c25,by rw [set_get (by omega)]; exact h.c26,by rw [set_get (by omega)]; exact h.c27⟩
theorem WC.setOut (h:WC cs code inp m mc xc cc) (c:C) (o:Str):WC (cs.set 22 (c)) code inp { m with out:=o } mc c cc :=
 ⟨by simp [h.len],by rw [set_get (by omega)]; exact h.c0,h.rl,fun k hk=>by rw [set_get (by omega)]; exact h.rg k hk,by rw [set_get (by omega)]; exact h.c17,by rw [set_get (by omega)]; exact h.c18,by rw [set_get (by omega)]; exact h.c19,by rw [set_get (by omega)]; exact h.c20,by rw [set_get (by omega)]; exact h.c21,set_same (by rw [h.len]; decide),by rw [set_get (by omega)]; exact h.c23,by rw [set_get (by omega)]; exact h.c24,by rw [set_get (by omega)]; exact h.c25,by rw [set_get (by omega)]; exact h.c26,by rw [set_get (by omega)]; exact h.c27⟩
end
def cntC (l:List Int):List C:=l.map fun n=>.d (.int .i64 n)
structure Wn (gr:Nat) (code:List Nat) (inp:Str) (m:M) (g:Nat → Nat) (ob:Obs):Prop where
 gen:g 13 = gr
 obj:∃ cs mi xc cnt,ob 13 = some cs ∧ WC cs code inp m (.osl mi (g mi) 1 0 m.mem.length) xc (.osl 47 (g 47) 1 0 code.length) ∧ (mi = 24 ∨ mi = 27) ∧ ob mi = some (wordC m.mem) ∧ ob 47 = some (cntC cnt) ∧ cnt.length = code.length ∧
  (xc = .osl 38 (g 38) 1 0 m.out.length ∧ ob 38 = some (byteC m.out))
end Go.Proofs.YtfcgadnbdcnnlaaGreatDoor

namespace Go.Proofs.YtfcgadnbdcnnlaaGreatDoor
open Go Go.Am Go.Asm Go.Mach
def FrW (g:Nat → Nat) (ob:Obs) (g':Nat → Nat) (ob':Obs):Prop:=∀ i,i < 3000 → i ≠ 13 → i ≠ 24 → i ≠ 27 → i ≠ 47 → i ≠ 38 → g' i = g i ∧ ob' i = ob i
theorem Wn.cells {gr:Nat} {code:List Nat} {inp:Str} {m m':M} {g g':Nat → Nat} {ob ob':Obs} (h:Wn gr code inp m g ob) {cs':List C} (hg:∀ i,(i = 13 ∨ i = 24 ∨ i = 27 ∨ i = 47 ∨ i = 38) → g' i = g i) (ho:∀ i,(i = 24 ∨ i = 27 ∨ i = 47 ∨ i = 38) → ob' i = ob i)
  (hc:ob' 13 = some cs') (hm:m'.mem = m.mem) (hx:m'.out = m.out) (hr:∀ cs mc xc cc,ob 13 = some cs → WC cs code inp m mc xc cc → WC cs' code inp m' mc xc cc):Wn gr code inp m' g' ob':=by
 obtain ⟨h1,cs,mi,xc,cnt,h2,h3,h4,h5,h6,h7,h8⟩:=h
 have hmi:g' mi = g mi ∧ ob' mi = ob mi:=⟨hg mi (by omega),ho mi (by omega)⟩
 refine ⟨by rw [hg 13 (by decide)]; exact h1,cs',mi,xc,cnt,hc,?_,h4,by rw [hmi.2,hm]; exact h5,by rw [ho 47 (by decide)]; exact h6,h7,by rw [hg 38 (by decide),ho 38 (by decide),hx]; exact h8⟩
 rw [hmi.1,hm,hg 47 (by decide)]
 exact hr cs _ _ _ h2 h3
theorem Wn.same {gr:Nat} {code:List Nat} {inp:Str} {m:M} {g g':Nat → Nat} {ob ob':Obs} (h:Wn gr code inp m g ob) (hg:∀ i,(i = 13 ∨ i = 24 ∨ i = 27 ∨ i = 47 ∨ i = 38) → g' i = g i) (ho:∀ i,(i = 13 ∨ i = 24 ∨ i = 27 ∨ i = 47 ∨ i = 38) → ob' i = ob i):Wn gr code inp m g' ob':=by
 obtain ⟨cs,_,_,_,h2,_⟩:=id h.obj
 exact h.cells (cs':=cs) hg (fun i hi=>ho i (by omega)) (by rw [ho 13 (by decide)]; exact h2) rfl rfl fun cs2 _ _ _ e r=>by rw [h2] at e; cases e; exact r
theorem Wn.done {gr:Nat} {code:List Nat} {inp:Str} {m m':M} {g g':Nat → Nat} {ob ob':Obs} {cs cs':List C} (h:Wn gr code inp m g ob) (ho:ob 13 = some cs) (hg':∀ i,(i < 3000 ∨ i = 38) → g' i = g i) (ho':∀ i,(i ≠ 13 ∧ (i < 3000 ∨ i = 38)) → ob' i = ob i)
  (hc:ob' 13 = some cs') (hm:m'.mem = m.mem) (hx:m'.out = m.out) (hr:∀ mc xc cc,WC cs code inp m mc xc cc → WC cs' code inp m' mc xc cc):FrW g ob g' ob' ∧ Wn gr code inp m' g' ob' :=
 ⟨fun i hi h13 _ _ _ _=>⟨hg' i (.inl hi),ho' i ⟨h13,.inl hi⟩⟩,h.cells (fun i hi=>hg' i (by omega)) (fun i hi=>ho' i (by omega)) hc hm hx fun cs2 mc xc cc e r=>by rw [ho] at e; cases e; exact hr mc xc cc r⟩
set_option maxHeartbeats 8000000 in
theorem set_W {gr:Nat} {code:List Nat} {inp:Str} {m:M} {g:Nat → Nat} {ob:Obs} (h:Wn gr code inp m g ob) (a x:Nat) (ha:a < 16) (hpc:m.pc ≤ 4294967296000000) :
  FunR Tryz.prog 283 [.one (.ptr 13 gr 0),iv .i64 a,iv .u32 x] g ob (fun _ g' ob'=>FrW g ob g' ob' ∧ Wn gr code inp (m.set a x) g' ob'):=by
 refine fun_of_wp 4000 Tt_ok mixed Tryz.func283 rfl (by rfl) [] rfl (by kernel_rfl) (by simp [Tryz.ntmps283]) ?_
 obtain ⟨hg,cs,mi,xc,cnt,ho,hr,-⟩:=id h
 have hws:=wrap_succ (k:=m.pc) (by omega)
 have hl:=hr.len
 have ha0:(0:Int) ≤ (a:Int):=by omega
 have hset:(cs.set (1 + a) (.d (.int .u32 (x:Nat))))[0]? = some (.d (.int .i64 (m.pc:Nat))):=by rw [set_get (by omega)]; exact hr.c0
 simp only [go_sem,↓reduceIte,hg,ho,ha0,hset,hws]
 refine ⟨by omega,by omega,?_⟩
 exact ⟨by simp only [List.length_set]; omega,retF_of (.inr rfl) (h.done ho (fun i hi=>by (try simp only [upd]); repeat (rw [if_neg (by omega)]); try rfl) (fun i hi=>by (try simp only [upd]); repeat (rw [if_neg (by omega)]); try rfl) (by simp [upd] <;> rfl) rfl rfl fun _ _ _ hr=>(hr.setReg ha x).setPc (m.pc + 1))⟩
set_option maxHeartbeats 8000000 in
theorem jump_W {gr:Nat} {code:List Nat} {inp:Str} {m:M} {g:Nat → Nat} {ob:Obs} (h:Wn gr code inp m g ob) (b:Bool) (c:Nat) (hpc:m.pc ≤ 4294967296000000) :
  FunR Tryz.prog 285 [.one (.ptr 13 gr 0),bv b,iv .i64 c] g ob (fun _ g' ob'=>FrW g ob g' ob' ∧ Wn gr code inp { m with pc:=if b = true then c else m.pc + 1 } g' ob'):=by
 refine fun_of_wp 4000 Tt_ok mixed Tryz.func285 rfl (by rfl) [] rfl (by kernel_rfl) (by simp [Tryz.ntmps285]) ?_
 obtain ⟨hg,cs,mi,xc,cnt,ho,hr,-⟩:=id h
 have hws:=wrap_succ (k:=m.pc) (by omega)
 have hl:=hr.len
 cases b
 ·simp only [go_sem,↓reduceIte,hg,ho,hr.c0,hws]
  exact ⟨by omega,retF_of (.inr rfl) (h.done ho (fun i hi=>by (try simp only [upd]); repeat (rw [if_neg (by omega)]); try rfl) (fun i hi=>by (try simp only [upd]); repeat (rw [if_neg (by omega)]); try rfl) (by simp [upd] <;> rfl) rfl rfl fun _ _ _ hr=>hr.setPc (m.pc + 1))⟩
 ·simp only [go_sem,↓reduceIte,hg,ho]
  exact ⟨by omega,retF_of (.inr rfl) (h.done ho (fun i hi=>by (try simp only [upd]); repeat (rw [if_neg (by omega)]); try rfl) (fun i hi=>by (try simp only [upd]); repeat (rw [if_neg (by omega)]); try rfl) (by simp [upd] <;> rfl) rfl rfl fun _ _ _ hr=>hr.setPc c)⟩
end Go.Proofs.YtfcgadnbdcnnlaaGreatDoor

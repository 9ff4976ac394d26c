/- A part of the proof; no conditions. -/
import Derived.Test.YtfcgadnbdcnnlabGreatDoorPart12
set_option linter.unusedSimpArgs false
set_option linter.unusedVariables false
namespace Go.Proofs.YtfcgadnbdcnnlabGreatDoor
open Go Go.Am Go.Asm
set_option maxHeartbeats 16000000 in
theorem put_A {gr:Nat} {st:Sta} {g:Nat → Nat} {ob:Obs} (h:Made gr st g ob) (op:Str) (args:List Str) (line:Nat) (hop:op.length ≤ 1000000) (hal:args.length ≤ 1000000) (hargs:∀ a ∈ args,a.length ≤ 1000000) (hcl:st.code.length ≤ 16384) (hul:st.uses.length ≤ 1000000) :
  FunR Tryz.prog 22 [.one (.ptr 20 gr 0),sv op,.one (.d (.sl (args.map fun w=>[D.str w]))),iv .i64 line] g ob (OutM gr (putA line st op args) g ob):=by
 refine fun_of_wp 3000 Tt_ok mixed Tryz.func22 rfl (by rfl) [8] rfl (by kernel_rfl) (by simp [Tryz.ntmps22]) ?_
 have h0:=h
 obtain ⟨hg,cc,lc,pc,uc,h20,hc,hl,hu⟩:=h
 obtain ⟨P,hP⟩:∃ P,putA line st op args = P:=⟨_,rfl⟩
 rw [hP]
 unfold putA at hP
 simp only [go_sem,↓reduceIte]
 refine hook_pure rfl (by simp only [go_sem,↓reduceIte]; exact Shape_A op) (by simp only [go_sem,↓reduceIte]; rfl) ?_
 rintro _ rfl
 have hsl:=shapeS_len op
 generalize hsh:shapeS op = sh at hsl hP ⊢
 by_cases e1:sh = [63]
 ·rw [if_pos e1] at hP
  subst hP
  simp only [go_sem,↓reduceIte,e1]
  exact retF_at ⟨(fun i hi=>by (try simp only [upd]); repeat (rw [if_neg (by omega)]); try rfl),fun i h5 hi=>by (try simp only [upd]); repeat (rw [if_neg (by omega)]),rfl⟩
 rw [if_neg e1] at hP
 by_cases e2:args.length = sh.length
 case neg =>
  have e2i:¬ (args.length:Int) = (sh.length:Int):=by omega
  rw [if_pos (.inl e2)] at hP
  subst hP
  simp only [go_sem,↓reduceIte,e1,e2i,List.length_map]
  exact retF_at ⟨(fun i hi=>by (try simp only [upd]); repeat (rw [if_neg (by omega)]); try rfl),fun i h5 hi=>by (try simp only [upd]); repeat (rw [if_neg (by omega)]),rfl⟩
 have e2i:(args.length:Int) = (sh.length:Int):=by omega
 have hdl:dataW = [46,100,97,116,97]:=rfl
 by_cases e3:op = dataW ∧ st.hasD = true
 ·rw [if_pos (.inr e3)] at hP
  subst hP
  have e3a:op = [46,100,97,116,97]:=e3.1
  simp only [go_sem,↓reduceIte,e1,e2i,e3a,List.length_map,h20,hg,e3.2]
  exact retF_at ⟨(fun i hi=>by (try simp only [upd]); repeat (rw [if_neg (by omega)]); try rfl),fun i h5 hi=>by (try simp only [upd]); repeat (rw [if_neg (by omega)]),rfl⟩
 rw [if_neg (by rintro (h | h); exact h e2; exact e3 h)] at hP
 by_cases e4:op = dataW
 case' pos =>
  have e4a:(op = [46,100,97,116,97]) = True:=eq_true e4
  have e6a:(op = [46,119,111,114,100]) = False:=eq_false (by rw [e4]; decide)
  have hmost:∀ v:Nat,((32768:Int) < (v:Int)) = (mostW op < v):=fun v=>by rw [show mostW op = 32768 by rw [e4]; rfl]; exact propext (by omega)
  have e5:st.hasD = false:=by cases hd:st.hasD with | false=>rfl | true=>exact absurd ⟨e4,hd⟩ e3
  simp only [go_sem,↓reduceIte,e1,e2i,e4a,List.length_map,h20,hg,e5]
 case' neg =>
  have e4a:(op = [46,100,97,116,97]) = False:=eq_false e4
  by_cases e6:op = wordW
  case' pos =>
   have e6a:(op = [46,119,111,114,100]) = True:=eq_true e6
   have hmost:∀ v:Nat,((4294967295:Int) < (v:Int)) = (mostW op < v):=fun v=>by rw [show mostW op = 4294967295 by rw [e6]; rfl]; exact propext (by omega)
  case' neg =>
   have e6a:(op = [46,119,111,114,100]) = False:=eq_false e6
   have hmost:∀ v:Nat,((65535:Int) < (v:Int)) = (mostW op < v):=fun v=>by rw [show mostW op = 65535 by unfold mostW; rw [if_neg e6,if_neg e4]]; exact propext (by omega)
  all_goals simp only [go_sem,↓reduceIte,e1,e2i,e4a,List.length_map,h20,hg]
 all_goals
  clear e1 e2i h20 hc hl hu hg
  generalize hgA:nxC 103 (g 3010) = gA
  refine loop_introB (fun n s'=>∃ (k:Nat) (x:FX),n + k = sh.length ∧ foldF op sh args 0 ([0,0,0],false,[]) = foldF op (sh.drop k) (args.drop k) k x ∧ x.1.length = 3 ∧ (∀ v ∈ x.1,0 ≤ v ∧ v < 4294967296) ∧
   (∀ i,i ≠ 3010 → s'.gen i = g i) ∧ s'.gen 3010 = gA ∧ (∀ i,i ≠ 3010 → s'.obj i = ob i) ∧ s'.obj 3010 = some (fC x.1) ∧ s'.f 0 = .one (.ptr 20 gr 0) ∧ s'.f 1 = sv op ∧ s'.f 2 = .one (.d (.sl (args.map fun w=>[D.str w]))) ∧ s'.f 3 = iv .i64 line ∧ s'.f 9 = sv sh ∧
   s'.f 10 = .one (.ptr 3010 gA 0) ∧ s'.f 11 = bv x.2.1 ∧ s'.f 12 = sv x.2.2 ∧ s'.f 13 = iv .i64 k) sh.length ?_ ?_
  ·refine ⟨0,([0,0,0],false,[]),by omega,rfl,rfl,by decide,fun i hi=>?_,?_⟩
   ·simp [upd,hi]
   simp only [go_sem,↓reduceIte,hgA]
   exact ⟨fun i hi=>by simp [upd,hi],rfl⟩
  clear hgA
  rintro n f g1 ob1 ⟨k,⟨xf,xg,xl⟩,hk,hf,hx3,hxb,hgi,hg3,hoi,ho3,q0,q1,q2,q3,q9,q10,q11,q12,q13⟩
  simp only at hx3 hxb hgi hg3 hoi ho3 q0 q1 q2 q3 q9 q10 q11 q12 q13
  have hw:=wrap_succ (k:=k) (by omega)
  by_cases hlt:k < sh.length
  case pos =>
   obtain ⟨c,hc⟩:=getq hlt
   obtain ⟨a,ha⟩:=getq (l:=args) (k:=k) (by omega)
   have hal:=hargs a (List.mem_of_getElem? ha)
   have hki:(k:Int) < (args.length:Int):=by omega
   have hki3:(k:Int) < 3:=by omega
   have hk0:(0:Int) ≤ (k:Int):=by omega
   have hga:(args.map fun w=>[D.str w])[k]? = some [D.str a]:=by rw [List.getElem?_map,ha]; rfl
   rw [foldF_at hc ha] at hf
   have hset:∀ v:Int,((List.map (fun v=>C.d (.int .i64 v)) xf).set k (C.d (.int .i64 v)))[k]? = some (C.d (.int .i64 v)):=fun v=>List.getElem?_set_self (by rw [List.length_map]; omega)
   by_cases hcr:c = 114
   ·subst hcr
    have z:((114:UInt8).toNat:Int) = 114:=rfl
    simp only [go_sem,↓reduceIte,q0,q1,q2,q3,q9,q10,q11,q12,q13,hki,hk0,hc,z,hga,Int.toNat_natCast]
    refine hook_pure rfl (by simp only [go_sem,↓reduceIte]; exact register_A a hal) (by simp only [go_sem,↓reduceIte]; rfl) ?_
    rintro _ rfl
    have hk1:k + 1 ≤ xf.length:=by omega
    by_cases hr:regI a < 0
    ·rw [hf,show stepF op 114 a k (xf,xg,xl) = none by unfold stepF; rw [if_pos rfl,if_pos hr],Option.bind_none] at hP
     subst hP
     simp only [go_sem,↓reduceIte,q0,q1,q2,q3,q9,q10,q11,q12,q13,hki,hk0,hki3,hg3,ho3,Int.toNat_natCast,Nat.mul_one,Nat.zero_add,setAt,fC,hset,hk1,List.length_map,hr]
     exact retF_at ⟨fun i hi=>hgi i (by omega),fun i h5 hi=>by (try simp only [upd]); rw [if_neg (by omega)]; exact hoi i (by omega),rfl⟩
    ·have hx':stepF op 114 a k (xf,xg,xl) = some (xf.set k (regI a),xg,xl):=by unfold stepF; rw [if_pos rfl,if_neg hr]
     rw [hx',Option.bind_some] at hf
     simp only [go_sem,↓reduceIte,q0,q1,q2,q3,q9,q10,q11,q12,q13,hki,hk0,hki3,hg3,ho3,Int.toNat_natCast,Nat.mul_one,Nat.zero_add,setAt,fC,hset,hk1,List.length_map,hr,hw]
     have hxl:(xf.set k (regI a)).length = 3:=by rw [List.length_set]; exact hx3
     have hxv:∀ v ∈ xf.set k (regI a),0 ≤ v ∧ v < 4294967296:=by
      intro v hv
      rcases List.mem_or_eq_of_mem_set hv with hv | rfl
      ·exact hxb v hv
      ·have:=regI_le a; omega
     refine round_endB (n - 1) (by omega) ⟨k + 1,_,by omega,hf,hxl,hxv,?_⟩
     simp only [go_sem,↓reduceIte,hg3,q0,q1,q2,q3,q9,q10,q11,q12,q13,List.map_set]
     exact ⟨hgi,fun i hi=>by rw [if_neg hi]; exact hoi i hi⟩
   ·have hcn:¬ (c.toNat:Int) = 114:=u8_ne (d:=114) hcr
    have hk1:k + 1 ≤ xf.length:=by omega
    simp only [go_sem,↓reduceIte,q0,q1,q2,q3,q9,q10,q11,q12,q13,hki,hk0,hc,hcn,hga,Int.toNat_natCast]
    refine hook_pure rfl (by simp only [go_sem,↓reduceIte]; exact number_A a hal) (by simp only [go_sem,↓reduceIte]; rfl) ?_
    rintro _ rfl
    have hnot:numV (numO a) = numV .other → (c = 110 ∧ regI a < 0 ∧ isLabel a = true → False) → stepF op c a k (xf,xg,xl) = none:=fun h1 h2=>by rw [stepF_no hcr h1,if_neg h2]
    cases kind a with
    | num v hv h1 h2 =>
      rw [stepF_num hcr h2,Option.bind_some] at hf
      rw [h2]
      unfold numV
      have hxl:(xf.set k (v:Int)).length = 3:=by rw [List.length_set]; exact hx3
      have hxv:∀ w ∈ xf.set k (v:Int),0 ≤ w ∧ w < 4294967296:=by
       intro w hw
       rcases List.mem_or_eq_of_mem_set hw with hw | rfl
       ·exact hxb w hw
       ·omega
      have hvw:IntKind.i64.wrap (v:Int) = (v:Int):=by rw [IntKind.wrap_i64] <;> omega
      cases xg <;> by_cases hmv:mostW op < v
      all_goals
       first | rw [decide_eq_true hmv] at hf | rw [decide_eq_false hmv] at hf
       simp only [Bool.or_true,Bool.or_false] at hf
       simp only [go_sem,↓reduceIte,q0,q1,q2,q3,q9,q10,q11,q12,q13,hki,hk0,hki3,hg3,ho3,hc,hga,Int.toNat_natCast,Nat.mul_one,Nat.zero_add,setAt,fC,hk1,List.length_map,hw,e4a,e6a,hmost v,hmv,hvw]
       refine round_endB (n - 1) (by omega) ⟨k + 1,_,by omega,hf,hxl,hxv,?_⟩
       simp only [go_sem,↓reduceIte,hg3,q0,q1,q2,q3,q9,q10,q11,q12,q13,List.map_set]
       exact ⟨hgi,fun i hi=>by rw [if_neg hi]; exact hoi i hi⟩
    | great h1 h2 =>
      rw [stepF_great hcr h2,Option.bind_some] at hf
      rw [h2]
      unfold numV
      have hxl:(xf.set k (0:Int)).length = 3:=by rw [List.length_set]; exact hx3
      have hxv:∀ w ∈ xf.set k (0:Int),0 ≤ w ∧ w < 4294967296:=by
       intro w hw
       rcases List.mem_or_eq_of_mem_set hw with hw | rfl
       ·exact hxb w hw
       ·omega
      have hw0:IntKind.i64.wrap 0 = 0:=rfl
      cases xg
      all_goals
       simp only [go_sem,↓reduceIte,hw0,q0,q1,q2,q3,q9,q10,q11,q12,q13,hki,hk0,hki3,hg3,ho3,hc,hga,Int.toNat_natCast,Nat.mul_one,Nat.zero_add,setAt,fC,hk1,List.length_map,hw,e4a,e6a]
       refine round_endB (n - 1) (by omega) ⟨k + 1,_,by omega,hf,hxl,hxv,?_⟩
       simp only [go_sem,↓reduceIte,hg3,q0,q1,q2,q3,q9,q10,q11,q12,q13,List.map_set]
       exact ⟨hgi,fun i hi=>by rw [if_neg hi]; exact hoi i hi⟩
    | lab h1 h0 h2 h3 h4 =>
      rw [h2]
      unfold numV
      by_cases hc1:c = 110
      ·subst hc1
       have z:((110:UInt8).toNat:Int) = 110:=rfl
       rw [stepF_no hcr h2,if_pos ⟨rfl,h3,h4⟩,Option.bind_some] at hf
       simp only [go_sem,↓reduceIte,q0,q1,q2,q3,q9,q10,q11,q12,q13,hki,hk0,hki3,hg3,ho3,hc,hga,Int.toNat_natCast,Nat.mul_one,Nat.zero_add,setAt,fC,hk1,List.length_map,hw,e4a,e6a,z]
       refine hook_pure rfl (by simp only [go_sem,↓reduceIte]; exact register_A a hal) (by simp only [go_sem,↓reduceIte]; rfl) ?_
       rintro _ rfl
       simp only [go_sem,↓reduceIte,q0,q1,q2,q3,q9,q10,q11,q12,q13,hki,hk0,hki3,hg3,ho3,hc,hga,Int.toNat_natCast,Nat.mul_one,Nat.zero_add,setAt,fC,hk1,List.length_map,hw,e4a,e6a,h3]
       refine hook_pure rfl (by simp only [go_sem,↓reduceIte]; exact isLabelR_A a (by omega)) (by simp only [go_sem,↓reduceIte]; rfl) ?_
       rintro _ rfl
       simp only [go_sem,↓reduceIte,q0,q1,q2,q3,q9,q10,q11,q12,q13,hki,hk0,hki3,hg3,ho3,hc,hga,Int.toNat_natCast,Nat.mul_one,Nat.zero_add,setAt,fC,hk1,List.length_map,hw,e4a,e6a,h4]
       refine round_endB (n - 1) (by omega) ⟨k + 1,_,by omega,hf,hx3,hxb,?_⟩
       simp only [go_sem,↓reduceIte,hg3,ho3,q0,q1,q2,q3,q9,q10,q11,q12,q13,fC]
       exact ⟨hgi,hoi⟩
      ·have hci:¬ (c.toNat:Int) = 110:=u8_ne (d:=110) hc1
       rw [hf,hnot h2 (fun h=>hc1 h.1),Option.bind_none] at hP
       subst hP
       simp only [go_sem,↓reduceIte,q0,q1,q2,q3,q9,q10,q11,q12,q13,hki,hk0,hki3,hg3,ho3,hc,hga,Int.toNat_natCast,Nat.mul_one,Nat.zero_add,setAt,fC,hk1,List.length_map,hw,e4a,e6a,hci]
       exact retF_at ⟨fun i hi=>hgi i (by omega),fun i h5 hi=>hoi i (by omega),rfl⟩
    | reg m h1 h2 h3 =>
      rw [h2]
      unfold numV
      rw [hf,hnot h2 (fun h=>h3 h.2.1),Option.bind_none] at hP
      subst hP
      by_cases hc1:c = 110
      ·subst hc1
       have z:((110:UInt8).toNat:Int) = 110:=rfl
       simp only [go_sem,↓reduceIte,q0,q1,q2,q3,q9,q10,q11,q12,q13,hki,hk0,hki3,hg3,ho3,hc,hga,Int.toNat_natCast,Nat.mul_one,Nat.zero_add,setAt,fC,hk1,List.length_map,hw,e4a,e6a,z]
       refine hook_pure rfl (by simp only [go_sem,↓reduceIte]; exact register_A a hal) (by simp only [go_sem,↓reduceIte]; rfl) ?_
       rintro _ rfl
       simp only [go_sem,↓reduceIte,q0,q1,q2,q3,q9,q10,q11,q12,q13,hki,hk0,hki3,hg3,ho3,hc,hga,Int.toNat_natCast,Nat.mul_one,Nat.zero_add,setAt,fC,hk1,List.length_map,hw,e4a,e6a,h3]
       exact retF_at ⟨fun i hi=>hgi i (by omega),fun i h5 hi=>hoi i (by omega),rfl⟩
      ·have hci:¬ (c.toNat:Int) = 110:=u8_ne (d:=110) hc1
       simp only [go_sem,↓reduceIte,q0,q1,q2,q3,q9,q10,q11,q12,q13,hki,hk0,hki3,hg3,ho3,hc,hga,Int.toNat_natCast,Nat.mul_one,Nat.zero_add,setAt,fC,hk1,List.length_map,hw,e4a,e6a,hci]
       exact retF_at ⟨fun i hi=>hgi i (by omega),fun i h5 hi=>hoi i (by omega),rfl⟩
    | other h1 h2 h4 =>
      rw [h2]
      unfold numV
      rw [hf,hnot h2 (fun h=>by rw [h4] at h; simp at h),Option.bind_none] at hP
      subst hP
      by_cases hc1:c = 110
      ·subst hc1
       have z:((110:UInt8).toNat:Int) = 110:=rfl
       simp only [go_sem,↓reduceIte,q0,q1,q2,q3,q9,q10,q11,q12,q13,hki,hk0,hki3,hg3,ho3,hc,hga,Int.toNat_natCast,Nat.mul_one,Nat.zero_add,setAt,fC,hk1,List.length_map,hw,e4a,e6a,z]
       refine hook_pure rfl (by simp only [go_sem,↓reduceIte]; exact register_A a hal) (by simp only [go_sem,↓reduceIte]; rfl) ?_
       rintro _ rfl
       by_cases h3:regI a < 0
       ·simp only [go_sem,↓reduceIte,q0,q1,q2,q3,q9,q10,q11,q12,q13,hki,hk0,hki3,hg3,ho3,hc,hga,Int.toNat_natCast,Nat.mul_one,Nat.zero_add,setAt,fC,hk1,List.length_map,hw,e4a,e6a,h3]
        refine hook_pure rfl (by simp only [go_sem,↓reduceIte]; exact isLabelR_A a (by omega)) (by simp only [go_sem,↓reduceIte]; rfl) ?_
        rintro _ rfl
        simp only [go_sem,↓reduceIte,q0,q1,q2,q3,q9,q10,q11,q12,q13,hki,hk0,hki3,hg3,ho3,hc,hga,Int.toNat_natCast,Nat.mul_one,Nat.zero_add,setAt,fC,hk1,List.length_map,hw,e4a,e6a,h4]
        exact retF_at ⟨fun i hi=>hgi i (by omega),fun i h5 hi=>hoi i (by omega),rfl⟩
       ·simp only [go_sem,↓reduceIte,q0,q1,q2,q3,q9,q10,q11,q12,q13,hki,hk0,hki3,hg3,ho3,hc,hga,Int.toNat_natCast,Nat.mul_one,Nat.zero_add,setAt,fC,hk1,List.length_map,hw,e4a,e6a,h3]
        exact retF_at ⟨fun i hi=>hgi i (by omega),fun i h5 hi=>hoi i (by omega),rfl⟩
      ·have hci:¬ (c.toNat:Int) = 110:=u8_ne (d:=110) hc1
       simp only [go_sem,↓reduceIte,q0,q1,q2,q3,q9,q10,q11,q12,q13,hki,hk0,hki3,hg3,ho3,hc,hga,Int.toNat_natCast,Nat.mul_one,Nat.zero_add,setAt,fC,hk1,List.length_map,hw,e4a,e6a,hci]
       exact retF_at ⟨fun i hi=>hgi i (by omega),fun i h5 hi=>hoi i (by omega),rfl⟩
  have hki:¬ (k:Int) < (args.length:Int):=by omega
  rw [foldF_end (by omega)] at hf
  rw [hf] at hP
  simp only at hP
  have hM:Made gr st g1 ob1:=h0.of (fun i hi=>hgi i (by omega)) (fun i hi=>hoi i (by omega))
  clear hf h0 hmost
  obtain ⟨hg,cc,lc,pc,uc,h20,hc,hl,hu⟩:=hM
  have hgo:∀ i,i < 3000 → g1 i = g i:=fun i hi=>hgi i (by omega)
  have hoo:∀ i,i ≠ 20 → i < 3000 → ob1 i = ob i:=fun i _ hi=>hoi i (by omega)
  clear hgi hoi
  obtain ⟨a,b,d,rfl⟩:∃ a b d,xf = [a,b,d]:=by
   match xf,hx3 with
   | [a,b,d],_=>exact ⟨a,b,d,rfl⟩
  obtain ⟨ha,hb,hd⟩:(0 ≤ a ∧ a < 4294967296) ∧ (0 ≤ b ∧ b < 4294967296) ∧ (0 ≤ d ∧ d < 4294967296):=⟨hxb a (by simp),hxb b (by simp),hxb d (by simp)⟩
  obtain ⟨a,rfl⟩:∃ n:Nat,a = n:=⟨a.toNat,by omega⟩
  obtain ⟨b,rfl⟩:∃ n:Nat,b = n:=⟨b.toNat,by omega⟩
  obtain ⟨d,rfl⟩:∃ n:Nat,d = n:=⟨d.toNat,by omega⟩
  clear hxb hx3
  have H:=And.intro q0 (And.intro q1 (And.intro q2 (And.intro q3 (And.intro q9 (And.intro q10 (And.intro q11 (And.intro q12 (And.intro q13 (And.intro hki (And.intro e4a (And.intro e6a (And.intro hg (And.intro h20 (And.intro hg3 ho3))))))))))))))
  cases xg
  case true =>
   rw [show endA line st op ([(a:Int),(b:Int),(d:Int)],true,xl) = .err 2 from if_pos (.inl rfl)] at hP
   subst hP
   simp only [go_sem,↓reduceIte,H,fC]
   exact retF_at ⟨hgo,hoo,rfl⟩
 ·-- other
  have hsc:((sh = [114,110]) = True ∧ (sh = [114,114]) = False ∧ (sh = [110]) = False ∧ fieldsX sh [(a:Int),(b:Int),(d:Int)] = ((a:Int),0,(b:Int))) ∨ ((sh = [114,110]) = False ∧ (sh = [114,114]) = True ∧ (sh = [110]) = False ∧ fieldsX sh [(a:Int),(b:Int),(d:Int)] = ((a:Int),(b:Int),0)) ∨
    ((sh = [114,110]) = False ∧ (sh = [114,114]) = False ∧ (sh = [110]) = True ∧ fieldsX sh [(a:Int),(b:Int),(d:Int)] = (0,0,(a:Int))) ∨ ((sh = [114,110]) = False ∧ (sh = [114,114]) = False ∧ (sh = [110]) = False ∧ fieldsX sh [(a:Int),(b:Int),(d:Int)] = ((a:Int),(b:Int),(d:Int))):=by
   by_cases s1:sh = [114,110]
   ·exact .inl ⟨eq_true s1,eq_false (by rw [s1]; decide),eq_false (by rw [s1]; decide),by rw [s1]; rfl⟩
   by_cases s2:sh = [114,114]
   ·exact .inr (.inl ⟨eq_false s1,eq_true s2,eq_false (by rw [s2]; decide),by rw [s2]; rfl⟩)
   by_cases s3:sh = [110]
   ·exact .inr (.inr (.inl ⟨eq_false s1,eq_false s2,eq_true s3,by rw [s3]; rfl⟩))
   ·exact .inr (.inr (.inr ⟨eq_false s1,eq_false s2,eq_false s3,by unfold fieldsX; rw [if_neg s1,if_neg s2,if_neg s3]; rfl⟩))
  rcases hc with ⟨c1,rfl⟩ | ⟨c1,ci,rfl | rfl,rfl,c3⟩
  ·have hlen:¬ st.code.length = 16384:=by rw [c1]; decide
   rw [endA_ins e6 e4 hlen,hsh] at hP
   subst hP
   by_cases hx:xl = []
   ·rw [show useX st line xl = st from if_pos hx]
    subst hx
    simp only [go_sem,↓reduceIte,H,fC,codeC,List.length_map]
    refine hook_pure rfl (by simp only [go_sem,↓reduceIte]; exact OpR_A op) (by simp only [go_sem,↓reduceIte]; rfl) ?_
    rintro _ rfl
    rcases hsc with ⟨s1,s2,s3,hfx⟩ | ⟨s1,s2,s3,hfx⟩ | ⟨s1,s2,s3,hfx⟩ | ⟨s1,s2,s3,hfx⟩
    ·rw [hfx]
     simp only [go_sem,↓reduceIte,H,fC,codeC,List.length_map,s1,s2,s3,buildA]
     refine draw_det Tt_ok mixed [3017] [([10],[],[],false),([191],[],[],false),([10],[0],[],false),([193],[0],[],false),([17],[],[],false),([195,192],[],[0],false),([17],[],[],false),([196,194],[],[],true)] 1 (by decide +kernel) rfl (by decide) ?_
     simp only [go_sem,↓reduceIte]
     iterate 5 (apply det_pure; · (intro fa ga oa K' hK; simp only [go_sem,↓reduceIte,H,fC,codeC,List.length_map,s1,s2,s3] at hK ⊢; exact hK))
     (apply det_store; (focus simp); (focus (intro fa ga oa K' hK; simp only [go_sem,↓reduceIte,H,fC,codeC,List.length_map,s1,s2,s3] at hK ⊢; exact hK)))
     (apply det_pure; · (intro fa ga oa K' hK; simp only [go_sem,↓reduceIte,H,fC,codeC,List.length_map,s1,s2,s3] at hK ⊢; exact hK))
     apply det_last
     intro K' hK'
     simp only [go_sem,↓reduceIte,H,fC,codeC,List.length_map,s1,s2,s3]
     refine hK' _ ?_
     clear hK' K'
     simp only [go_sem,↓reduceIte,H,fC,codeC,List.length_map,s1,s2,s3]
     refine hook_pure rfl (by simp only [go_sem,↓reduceIte]; exact Enc_X _ _ _ _) (by simp only [go_sem,↓reduceIte]; rfl) ?_
     rintro _ ⟨e,rfl⟩
     simp only [go_sem,↓reduceIte,H,fC,codeC,List.length_map,s1,s2,s3,elemTy]
     refine ⟨⟨by decide,by decide⟩,?_⟩
     refine retF_at ⟨fun i hi=>by (have:=far hi; simp only [upd,this,if_false]; exact hgo i hi),fun i h5 hi=>by (have:=far hi; simp only [upd,this,h5,if_false]; exact hoo i h5 hi),rfl,⟨by simp [upd,hg],_,lc,pc,_,rfl,?_,hl,?_⟩⟩
     ·exact .inr ⟨by simp [addX],3223,.inr rfl,by simp [upd,c1,addX],by simp [upd,c1,addX,codeC]⟩
     ·exact hu
    ·rw [hfx]
     simp only [go_sem,↓reduceIte,H,fC,codeC,List.length_map,s1,s2,s3,buildA]
     refine draw_det Tt_ok mixed [3017] [([10],[],[],false),([199],[],[],false),([10],[0],[],false),([201],[0],[],false),([17],[],[],false),([203,200],[],[0],false),([17],[],[],false),([204,202],[],[],true)] 1 (by decide +kernel) rfl (by decide) ?_
     simp only [go_sem,↓reduceIte]
     iterate 5 (apply det_pure; · (intro fa ga oa K' hK; simp only [go_sem,↓reduceIte,H,fC,codeC,List.length_map,s1,s2,s3] at hK ⊢; exact hK))
     (apply det_store; (focus simp); (focus (intro fa ga oa K' hK; simp only [go_sem,↓reduceIte,H,fC,codeC,List.length_map,s1,s2,s3] at hK ⊢; exact hK)))
     (apply det_pure; · (intro fa ga oa K' hK; simp only [go_sem,↓reduceIte,H,fC,codeC,List.length_map,s1,s2,s3] at hK ⊢; exact hK))
     apply det_last
     intro K' hK'
     simp only [go_sem,↓reduceIte,H,fC,codeC,List.length_map,s1,s2,s3]
     refine hK' _ ?_
     clear hK' K'
     simp only [go_sem,↓reduceIte,H,fC,codeC,List.length_map,s1,s2,s3]
     refine hook_pure rfl (by simp only [go_sem,↓reduceIte]; exact Enc_X _ _ _ _) (by simp only [go_sem,↓reduceIte]; rfl) ?_
     rintro _ ⟨e,rfl⟩
     simp only [go_sem,↓reduceIte,H,fC,codeC,List.length_map,s1,s2,s3,elemTy]
     refine ⟨⟨by decide,by decide⟩,?_⟩
     refine retF_at ⟨fun i hi=>by (have:=far hi; simp only [upd,this,if_false]; exact hgo i hi),fun i h5 hi=>by (have:=far hi; simp only [upd,this,h5,if_false]; exact hoo i h5 hi),rfl,⟨by simp [upd,hg],_,lc,pc,_,rfl,?_,hl,?_⟩⟩
     ·exact .inr ⟨by simp [addX],3223,.inr rfl,by simp [upd,c1,addX],by simp [upd,c1,addX,codeC]⟩
     ·exact hu
    ·rw [hfx]
     simp only [go_sem,↓reduceIte,H,fC,codeC,List.length_map,s1,s2,s3,buildA]
     refine hook_pure rfl (by simp only [go_sem,↓reduceIte]; exact Enc_X _ _ _ _) (by simp only [go_sem,↓reduceIte]; rfl) ?_
     rintro _ ⟨e,rfl⟩
     simp only [go_sem,↓reduceIte,H,fC,codeC,List.length_map,s1,s2,s3,elemTy]
     refine ⟨⟨by decide,by decide⟩,?_⟩
     refine retF_at ⟨fun i hi=>by (have:=far hi; simp only [upd,this,if_false]; exact hgo i hi),fun i h5 hi=>by (have:=far hi; simp only [upd,this,h5,if_false]; exact hoo i h5 hi),rfl,⟨by simp [upd,hg],_,lc,pc,_,rfl,?_,hl,?_⟩⟩
     ·exact .inr ⟨by simp [addX],3223,.inr rfl,by simp [upd,c1,addX],by simp [upd,c1,addX,codeC]⟩
     ·exact hu
    ·rw [hfx]
     simp only [go_sem,↓reduceIte,H,fC,codeC,List.length_map,s1,s2,s3,buildA]
     refine draw_det Tt_ok mixed [3017] [([10],[],[],false),([180],[],[],false),([10],[0],[],false),([182],[0],[],false),([10],[0],[],false),([184],[0],[],false),([17],[],[],false),([186,181],[],[0],false),([17],[],[],false),([187,183],[],[0],false),([17],[],[],false),([188,185],[],[],true)] 1 (by decide +kernel) rfl (by decide) ?_
     simp only [go_sem,↓reduceIte]
     iterate 7 (apply det_pure; · (intro fa ga oa K' hK; simp only [go_sem,↓reduceIte,H,fC,codeC,List.length_map,s1,s2,s3] at hK ⊢; exact hK))
     (apply det_store; (focus simp); (focus (intro fa ga oa K' hK; simp only [go_sem,↓reduceIte,H,fC,codeC,List.length_map,s1,s2,s3] at hK ⊢; exact hK)))
     (apply det_pure; · (intro fa ga oa K' hK; simp only [go_sem,↓reduceIte,H,fC,codeC,List.length_map,s1,s2,s3] at hK ⊢; exact hK))
     (apply det_store; (focus simp); (focus (intro fa ga oa K' hK; simp only [go_sem,↓reduceIte,H,fC,codeC,List.length_map,s1,s2,s3] at hK ⊢; exact hK)))
     (apply det_pure; · (intro fa ga oa K' hK; simp only [go_sem,↓reduceIte,H,fC,codeC,List.length_map,s1,s2,s3] at hK ⊢; exact hK))
     apply det_last
     intro K' hK'
     simp only [go_sem,↓reduceIte,H,fC,codeC,List.length_map,s1,s2,s3]
     refine hK' _ ?_
     clear hK' K'
     simp only [go_sem,↓reduceIte,H,fC,codeC,List.length_map,s1,s2,s3]
     refine hook_pure rfl (by simp only [go_sem,↓reduceIte]; exact Enc_X _ _ _ _) (by simp only [go_sem,↓reduceIte]; rfl) ?_
     rintro _ ⟨e,rfl⟩
     simp only [go_sem,↓reduceIte,H,fC,codeC,List.length_map,s1,s2,s3,elemTy]
     refine ⟨⟨by decide,by decide⟩,?_⟩
     refine retF_at ⟨fun i hi=>by (have:=far hi; simp only [upd,this,if_false]; exact hgo i hi),fun i h5 hi=>by (have:=far hi; simp only [upd,this,h5,if_false]; exact hoo i h5 hi),rfl,⟨by simp [upd,hg],_,lc,pc,_,rfl,?_,hl,?_⟩⟩
     ·exact .inr ⟨by simp [addX],3223,.inr rfl,by simp [upd,c1,addX],by simp [upd,c1,addX,codeC]⟩
     ·exact hu
   rw [show useX st line xl = { st with uses:=st.uses ++ [(line,st.code.length,xl)] } from if_neg hx]
   rcases hu with ⟨u1,rfl⟩ | ⟨u1,rfl,u3⟩
   ·simp only [go_sem,↓reduceIte,H,fC,codeC,List.length_map,hx]
    refine draw_det Tt_ok mixed [3156,3157,20] [([0],[0,1],[],false),([0],[0],[],false),([143],[0],[],false),([144],[0],[],false),([145],[0],[],false),([12],[],[],false),([3],[],[],false),([0],[],[],false),([149],[],[],false),([150],[],[],false),([151],[],[],false),([152],[],[],false),([153],[],[],false),([147,148,154],[],[],false),([155],[],[0],false),([146,156],[],[1],false),([142],[],[],false),([158],[],[],false),([159,157],[],[],true)] 3 (by decide +kernel) rfl (by decide) ?_
    simp only [go_sem,↓reduceIte]
    iterate 13 (apply det_pure; · (intro fa ga oa K' hK; simp only [go_sem,↓reduceIte,H,fC,codeC,List.length_map,hx] at hK ⊢; exact hK))
    (apply det_pure; · (intro fa ga oa K' hK; simp only [go_sem,↓reduceIte,buildA] at hK ⊢; exact hK))
    (apply det_new; · (intro fa ga oa K' hK; simp only [go_sem,↓reduceIte,H,fC,codeC,List.length_map,hx,elemTy] at hK ⊢; exact hK))
    (apply det_new; · (intro fa ga oa K' hK; simp only [go_sem,↓reduceIte,H,fC,codeC,List.length_map,hx,elemTy] at hK ⊢; first | exact ⟨⟨by decide,by decide⟩,hK⟩ | exact ⟨⟨by decide,by omega⟩,hK⟩ | exact ⟨Nat.le_of_eq (flatR_len _).symm,⟨by decide,by omega⟩,hK⟩ | exact ⟨Nat.le_refl _,⟨by decide,by omega⟩,hK⟩))
    iterate 2 (apply det_pure; · (intro fa ga oa K' hK; simp only [go_sem,↓reduceIte,H,fC,codeC,List.length_map,hx] at hK ⊢; exact hK))
    apply det_last
    intro K' hK'
    simp only [go_sem,↓reduceIte,H,fC,codeC,List.length_map,hx]
    refine hK' _ ?_
    clear hK' K'
    simp only [go_sem,↓reduceIte,H,fC,codeC,List.length_map,hx]
    refine hook_pure rfl (by simp only [go_sem,↓reduceIte]; exact OpR_A op) (by simp only [go_sem,↓reduceIte]; rfl) ?_
    rintro _ rfl
    rcases hsc with ⟨s1,s2,s3,hfx⟩ | ⟨s1,s2,s3,hfx⟩ | ⟨s1,s2,s3,hfx⟩ | ⟨s1,s2,s3,hfx⟩
    ·rw [hfx]
     simp only [go_sem,↓reduceIte,H,fC,codeC,List.length_map,hx,s1,s2,s3,buildA]
     refine draw_det Tt_ok mixed [3017] [([10],[],[],false),([191],[],[],false),([10],[0],[],false),([193],[0],[],false),([17],[],[],false),([195,192],[],[0],false),([17],[],[],false),([196,194],[],[],true)] 1 (by decide +kernel) rfl (by decide) ?_
     simp only [go_sem,↓reduceIte]
     iterate 5 (apply det_pure; · (intro fa ga oa K' hK; simp only [go_sem,↓reduceIte,H,fC,codeC,List.length_map,hx,s1,s2,s3] at hK ⊢; exact hK))
     (apply det_store; (focus simp); (focus (intro fa ga oa K' hK; simp only [go_sem,↓reduceIte,H,fC,codeC,List.length_map,hx,s1,s2,s3] at hK ⊢; exact hK)))
     (apply det_pure; · (intro fa ga oa K' hK; simp only [go_sem,↓reduceIte,H,fC,codeC,List.length_map,hx,s1,s2,s3] at hK ⊢; exact hK))
     apply det_last
     intro K' hK'
     simp only [go_sem,↓reduceIte,H,fC,codeC,List.length_map,hx,s1,s2,s3]
     refine hK' _ ?_
     clear hK' K'
     simp only [go_sem,↓reduceIte,H,fC,codeC,List.length_map,hx,s1,s2,s3]
     refine hook_pure rfl (by simp only [go_sem,↓reduceIte]; exact Enc_X _ _ _ _) (by simp only [go_sem,↓reduceIte]; rfl) ?_
     rintro _ ⟨e,rfl⟩
     simp only [go_sem,↓reduceIte,H,fC,codeC,List.length_map,hx,s1,s2,s3,elemTy]
     refine ⟨⟨by decide,by decide⟩,?_⟩
     refine retF_at ⟨fun i hi=>by (have:=far hi; simp only [upd,this,if_false]; exact hgo i hi),fun i h5 hi=>by (have:=far hi; simp only [upd,this,h5,if_false]; exact hoo i h5 hi),rfl,⟨by simp [upd,hg],_,lc,pc,_,rfl,?_,hl,?_⟩⟩
     ·exact .inr ⟨by simp [addX],3223,.inr rfl,by simp [upd,c1,addX],by simp [upd,c1,addX,codeC]⟩
     ·exact .inr ⟨by simp [addX],by simp [upd,u1,addX],by simp [upd,u1,addX,useR,c1]⟩
    ·rw [hfx]
     simp only [go_sem,↓reduceIte,H,fC,codeC,List.length_map,hx,s1,s2,s3,buildA]
     refine draw_det Tt_ok mixed [3017] [([10],[],[],false),([199],[],[],false),([10],[0],[],false),([201],[0],[],false),([17],[],[],false),([203,200],[],[0],false),([17],[],[],false),([204,202],[],[],true)] 1 (by decide +kernel) rfl (by decide) ?_
     simp only [go_sem,↓reduceIte]
     iterate 5 (apply det_pure; · (intro fa ga oa K' hK; simp only [go_sem,↓reduceIte,H,fC,codeC,List.length_map,hx,s1,s2,s3] at hK ⊢; exact hK))
     (apply det_store; (focus simp); (focus (intro fa ga oa K' hK; simp only [go_sem,↓reduceIte,H,fC,codeC,List.length_map,hx,s1,s2,s3] at hK ⊢; exact hK)))
     (apply det_pure; · (intro fa ga oa K' hK; simp only [go_sem,↓reduceIte,H,fC,codeC,List.length_map,hx,s1,s2,s3] at hK ⊢; exact hK))
     apply det_last
     intro K' hK'
     simp only [go_sem,↓reduceIte,H,fC,codeC,List.length_map,hx,s1,s2,s3]
     refine hK' _ ?_
     clear hK' K'
     simp only [go_sem,↓reduceIte,H,fC,codeC,List.length_map,hx,s1,s2,s3]
     refine hook_pure rfl (by simp only [go_sem,↓reduceIte]; exact Enc_X _ _ _ _) (by simp only [go_sem,↓reduceIte]; rfl) ?_
     rintro _ ⟨e,rfl⟩
     simp only [go_sem,↓reduceIte,H,fC,codeC,List.length_map,hx,s1,s2,s3,elemTy]
     refine ⟨⟨by decide,by decide⟩,?_⟩
     refine retF_at ⟨fun i hi=>by (have:=far hi; simp only [upd,this,if_false]; exact hgo i hi),fun i h5 hi=>by (have:=far hi; simp only [upd,this,h5,if_false]; exact hoo i h5 hi),rfl,⟨by simp [upd,hg],_,lc,pc,_,rfl,?_,hl,?_⟩⟩
     ·exact .inr ⟨by simp [addX],3223,.inr rfl,by simp [upd,c1,addX],by simp [upd,c1,addX,codeC]⟩
     ·exact .inr ⟨by simp [addX],by simp [upd,u1,addX],by simp [upd,u1,addX,useR,c1]⟩
    ·rw [hfx]
     simp only [go_sem,↓reduceIte,H,fC,codeC,List.length_map,hx,s1,s2,s3,buildA]
     refine hook_pure rfl (by simp only [go_sem,↓reduceIte]; exact Enc_X _ _ _ _) (by simp only [go_sem,↓reduceIte]; rfl) ?_
     rintro _ ⟨e,rfl⟩
     simp only [go_sem,↓reduceIte,H,fC,codeC,List.length_map,hx,s1,s2,s3,elemTy]
     refine ⟨⟨by decide,by decide⟩,?_⟩
     refine retF_at ⟨fun i hi=>by (have:=far hi; simp only [upd,this,if_false]; exact hgo i hi),fun i h5 hi=>by (have:=far hi; simp only [upd,this,h5,if_false]; exact hoo i h5 hi),rfl,⟨by simp [upd,hg],_,lc,pc,_,rfl,?_,hl,?_⟩⟩
     ·exact .inr ⟨by simp [addX],3223,.inr rfl,by simp [upd,c1,addX],by simp [upd,c1,addX,codeC]⟩
     ·exact .inr ⟨by simp [addX],by simp [upd,u1,addX],by simp [upd,u1,addX,useR,c1]⟩
    ·rw [hfx]
     simp only [go_sem,↓reduceIte,H,fC,codeC,List.length_map,hx,s1,s2,s3,buildA]
     refine draw_det Tt_ok mixed [3017] [([10],[],[],false),([180],[],[],false),([10],[0],[],false),([182],[0],[],false),([10],[0],[],false),([184],[0],[],false),([17],[],[],false),([186,181],[],[0],false),([17],[],[],false),([187,183],[],[0],false),([17],[],[],false),([188,185],[],[],true)] 1 (by decide +kernel) rfl (by decide) ?_
     simp only [go_sem,↓reduceIte]
     iterate 7 (apply det_pure; · (intro fa ga oa K' hK; simp only [go_sem,↓reduceIte,H,fC,codeC,List.length_map,hx,s1,s2,s3] at hK ⊢; exact hK))
     (apply det_store; (focus simp); (focus (intro fa ga oa K' hK; simp only [go_sem,↓reduceIte,H,fC,codeC,List.length_map,hx,s1,s2,s3] at hK ⊢; exact hK)))
     (apply det_pure; · (intro fa ga oa K' hK; simp only [go_sem,↓reduceIte,H,fC,codeC,List.length_map,hx,s1,s2,s3] at hK ⊢; exact hK))
     (apply det_store; (focus simp); (focus (intro fa ga oa K' hK; simp only [go_sem,↓reduceIte,H,fC,codeC,List.length_map,hx,s1,s2,s3] at hK ⊢; exact hK)))
     (apply det_pure; · (intro fa ga oa K' hK; simp only [go_sem,↓reduceIte,H,fC,codeC,List.length_map,hx,s1,s2,s3] at hK ⊢; exact hK))
     apply det_last
     intro K' hK'
     simp only [go_sem,↓reduceIte,H,fC,codeC,List.length_map,hx,s1,s2,s3]
     refine hK' _ ?_
     clear hK' K'
     simp only [go_sem,↓reduceIte,H,fC,codeC,List.length_map,hx,s1,s2,s3]
     refine hook_pure rfl (by simp only [go_sem,↓reduceIte]; exact Enc_X _ _ _ _) (by simp only [go_sem,↓reduceIte]; rfl) ?_
     rintro _ ⟨e,rfl⟩
     simp only [go_sem,↓reduceIte,H,fC,codeC,List.length_map,hx,s1,s2,s3,elemTy]
     refine ⟨⟨by decide,by decide⟩,?_⟩
     refine retF_at ⟨fun i hi=>by (have:=far hi; simp only [upd,this,if_false]; exact hgo i hi),fun i h5 hi=>by (have:=far hi; simp only [upd,this,h5,if_false]; exact hoo i h5 hi),rfl,⟨by simp [upd,hg],_,lc,pc,_,rfl,?_,hl,?_⟩⟩
     ·exact .inr ⟨by simp [addX],3223,.inr rfl,by simp [upd,c1,addX],by simp [upd,c1,addX,codeC]⟩
     ·exact .inr ⟨by simp [addX],by simp [upd,u1,addX],by simp [upd,u1,addX,useR,c1]⟩
   ·simp only [go_sem,↓reduceIte,H,fC,codeC,List.length_map,hx,u3]
    refine draw_det Tt_ok mixed [3156,3157,20] [([0],[0,1],[],false),([0],[0],[],false),([143],[0],[],false),([144],[0],[],false),([145],[0],[],false),([12],[],[],false),([3],[],[],false),([0],[],[],false),([149],[],[],false),([150],[],[],false),([151],[],[],false),([152],[],[],false),([153],[],[],false),([147,148,154],[],[],false),([155],[],[0],false),([146,156],[],[1],false),([142],[],[],false),([158],[],[],false),([159,157],[],[],true)] 3 (by decide +kernel) rfl (by decide) ?_
    simp only [go_sem,↓reduceIte]
    iterate 13 (apply det_pure; · (intro fa ga oa K' hK; simp only [go_sem,↓reduceIte,H,fC,codeC,List.length_map,hx,u3] at hK ⊢; exact hK))
    (apply det_pure; · (intro fa ga oa K' hK; simp only [go_sem,↓reduceIte,buildA] at hK ⊢; exact hK))
    (apply det_new; · (intro fa ga oa K' hK; simp only [go_sem,↓reduceIte,H,fC,codeC,List.length_map,hx,u3,elemTy] at hK ⊢; exact hK))
    (apply det_new; · (intro fa ga oa K' hK; simp only [go_sem,↓reduceIte,H,fC,codeC,List.length_map,hx,u3,elemTy] at hK ⊢; first | exact ⟨⟨by decide,by decide⟩,hK⟩ | exact ⟨⟨by decide,by omega⟩,hK⟩ | exact ⟨Nat.le_of_eq (flatR_len _).symm,⟨by decide,by omega⟩,hK⟩ | exact ⟨Nat.le_refl _,⟨by decide,by omega⟩,hK⟩))
    iterate 2 (apply det_pure; · (intro fa ga oa K' hK; simp only [go_sem,↓reduceIte,H,fC,codeC,List.length_map,hx,u3] at hK ⊢; exact hK))
    apply det_last
    intro K' hK'
    simp only [go_sem,↓reduceIte,H,fC,codeC,List.length_map,hx,u3]
    refine hK' _ ?_
    clear hK' K'
    simp only [go_sem,↓reduceIte,H,fC,codeC,List.length_map,hx,u3]
    refine hook_pure rfl (by simp only [go_sem,↓reduceIte]; exact OpR_A op) (by simp only [go_sem,↓reduceIte]; rfl) ?_
    rintro _ rfl
    rcases hsc with ⟨s1,s2,s3,hfx⟩ | ⟨s1,s2,s3,hfx⟩ | ⟨s1,s2,s3,hfx⟩ | ⟨s1,s2,s3,hfx⟩
    ·rw [hfx]
     simp only [go_sem,↓reduceIte,H,fC,codeC,List.length_map,hx,u3,s1,s2,s3,buildA]
     refine draw_det Tt_ok mixed [3017] [([10],[],[],false),([191],[],[],false),([10],[0],[],false),([193],[0],[],false),([17],[],[],false),([195,192],[],[0],false),([17],[],[],false),([196,194],[],[],true)] 1 (by decide +kernel) rfl (by decide) ?_
     simp only [go_sem,↓reduceIte]
     iterate 5 (apply det_pure; · (intro fa ga oa K' hK; simp only [go_sem,↓reduceIte,H,fC,codeC,List.length_map,hx,u3,s1,s2,s3] at hK ⊢; exact hK))
     (apply det_store; (focus simp); (focus (intro fa ga oa K' hK; simp only [go_sem,↓reduceIte,H,fC,codeC,List.length_map,hx,u3,s1,s2,s3] at hK ⊢; exact hK)))
     (apply det_pure; · (intro fa ga oa K' hK; simp only [go_sem,↓reduceIte,H,fC,codeC,List.length_map,hx,u3,s1,s2,s3] at hK ⊢; exact hK))
     apply det_last
     intro K' hK'
     simp only [go_sem,↓reduceIte,H,fC,codeC,List.length_map,hx,u3,s1,s2,s3]
     refine hK' _ ?_
     clear hK' K'
     simp only [go_sem,↓reduceIte,H,fC,codeC,List.length_map,hx,u3,s1,s2,s3]
     refine hook_pure rfl (by simp only [go_sem,↓reduceIte]; exact Enc_X _ _ _ _) (by simp only [go_sem,↓reduceIte]; rfl) ?_
     rintro _ ⟨e,rfl⟩
     simp only [go_sem,↓reduceIte,H,fC,codeC,List.length_map,hx,u3,s1,s2,s3,elemTy]
     refine ⟨⟨by decide,by decide⟩,?_⟩
     refine retF_at ⟨fun i hi=>by (have:=far hi; simp only [upd,this,if_false]; exact hgo i hi),fun i h5 hi=>by (have:=far hi; simp only [upd,this,h5,if_false]; exact hoo i h5 hi),rfl,⟨by simp [upd,hg],_,lc,pc,_,rfl,?_,hl,?_⟩⟩
     ·exact .inr ⟨by simp [addX],3223,.inr rfl,by simp [upd,c1,addX],by simp [upd,c1,addX,codeC]⟩
     ·exact .inr ⟨by simp [addX],by simp [upd,addX],by simp [upd,addX,flatR_take,useR,c1]⟩
    ·rw [hfx]
     simp only [go_sem,↓reduceIte,H,fC,codeC,List.length_map,hx,u3,s1,s2,s3,buildA]
     refine draw_det Tt_ok mixed [3017] [([10],[],[],false),([199],[],[],false),([10],[0],[],false),([201],[0],[],false),([17],[],[],false),([203,200],[],[0],false),([17],[],[],false),([204,202],[],[],true)] 1 (by decide +kernel) rfl (by decide) ?_
     simp only [go_sem,↓reduceIte]
     iterate 5 (apply det_pure; · (intro fa ga oa K' hK; simp only [go_sem,↓reduceIte,H,fC,codeC,List.length_map,hx,u3,s1,s2,s3] at hK ⊢; exact hK))
     (apply det_store; (focus simp); (focus (intro fa ga oa K' hK; simp only [go_sem,↓reduceIte,H,fC,codeC,List.length_map,hx,u3,s1,s2,s3] at hK ⊢; exact hK)))
     (apply det_pure; · (intro fa ga oa K' hK; simp only [go_sem,↓reduceIte,H,fC,codeC,List.length_map,hx,u3,s1,s2,s3] at hK ⊢; exact hK))
     apply det_last
     intro K' hK'
     simp only [go_sem,↓reduceIte,H,fC,codeC,List.length_map,hx,u3,s1,s2,s3]
     refine hK' _ ?_
     clear hK' K'
     simp only [go_sem,↓reduceIte,H,fC,codeC,List.length_map,hx,u3,s1,s2,s3]
     refine hook_pure rfl (by simp only [go_sem,↓reduceIte]; exact Enc_X _ _ _ _) (by simp only [go_sem,↓reduceIte]; rfl) ?_
     rintro _ ⟨e,rfl⟩
     simp only [go_sem,↓reduceIte,H,fC,codeC,List.length_map,hx,u3,s1,s2,s3,elemTy]
     refine ⟨⟨by decide,by decide⟩,?_⟩
     refine retF_at ⟨fun i hi=>by (have:=far hi; simp only [upd,this,if_false]; exact hgo i hi),fun i h5 hi=>by (have:=far hi; simp only [upd,this,h5,if_false]; exact hoo i h5 hi),rfl,⟨by simp [upd,hg],_,lc,pc,_,rfl,?_,hl,?_⟩⟩
     ·exact .inr ⟨by simp [addX],3223,.inr rfl,by simp [upd,c1,addX],by simp [upd,c1,addX,codeC]⟩
     ·exact .inr ⟨by simp [addX],by simp [upd,addX],by simp [upd,addX,flatR_take,useR,c1]⟩
    ·rw [hfx]
     simp only [go_sem,↓reduceIte,H,fC,codeC,List.length_map,hx,u3,s1,s2,s3,buildA]
     refine hook_pure rfl (by simp only [go_sem,↓reduceIte]; exact Enc_X _ _ _ _) (by simp only [go_sem,↓reduceIte]; rfl) ?_
     rintro _ ⟨e,rfl⟩
     simp only [go_sem,↓reduceIte,H,fC,codeC,List.length_map,hx,u3,s1,s2,s3,elemTy]
     refine ⟨⟨by decide,by decide⟩,?_⟩
     refine retF_at ⟨fun i hi=>by (have:=far hi; simp only [upd,this,if_false]; exact hgo i hi),fun i h5 hi=>by (have:=far hi; simp only [upd,this,h5,if_false]; exact hoo i h5 hi),rfl,⟨by simp [upd,hg],_,lc,pc,_,rfl,?_,hl,?_⟩⟩
     ·exact .inr ⟨by simp [addX],3223,.inr rfl,by simp [upd,c1,addX],by simp [upd,c1,addX,codeC]⟩
     ·exact .inr ⟨by simp [addX],by simp [upd,addX],by simp [upd,addX,flatR_take,useR,c1]⟩
    ·rw [hfx]
     simp only [go_sem,↓reduceIte,H,fC,codeC,List.length_map,hx,u3,s1,s2,s3,buildA]
     refine draw_det Tt_ok mixed [3017] [([10],[],[],false),([180],[],[],false),([10],[0],[],false),([182],[0],[],false),([10],[0],[],false),([184],[0],[],false),([17],[],[],false),([186,181],[],[0],false),([17],[],[],false),([187,183],[],[0],false),([17],[],[],false),([188,185],[],[],true)] 1 (by decide +kernel) rfl (by decide) ?_
     simp only [go_sem,↓reduceIte]
     iterate 7 (apply det_pure; · (intro fa ga oa K' hK; simp only [go_sem,↓reduceIte,H,fC,codeC,List.length_map,hx,u3,s1,s2,s3] at hK ⊢; exact hK))
     (apply det_store; (focus simp); (focus (intro fa ga oa K' hK; simp only [go_sem,↓reduceIte,H,fC,codeC,List.length_map,hx,u3,s1,s2,s3] at hK ⊢; exact hK)))
     (apply det_pure; · (intro fa ga oa K' hK; simp only [go_sem,↓reduceIte,H,fC,codeC,List.length_map,hx,u3,s1,s2,s3] at hK ⊢; exact hK))
     (apply det_store; (focus simp); (focus (intro fa ga oa K' hK; simp only [go_sem,↓reduceIte,H,fC,codeC,List.length_map,hx,u3,s1,s2,s3] at hK ⊢; exact hK)))
     (apply det_pure; · (intro fa ga oa K' hK; simp only [go_sem,↓reduceIte,H,fC,codeC,List.length_map,hx,u3,s1,s2,s3] at hK ⊢; exact hK))
     apply det_last
     intro K' hK'
     simp only [go_sem,↓reduceIte,H,fC,codeC,List.length_map,hx,u3,s1,s2,s3]
     refine hK' _ ?_
     clear hK' K'
     simp only [go_sem,↓reduceIte,H,fC,codeC,List.length_map,hx,u3,s1,s2,s3]
     refine hook_pure rfl (by simp only [go_sem,↓reduceIte]; exact Enc_X _ _ _ _) (by simp only [go_sem,↓reduceIte]; rfl) ?_
     rintro _ ⟨e,rfl⟩
     simp only [go_sem,↓reduceIte,H,fC,codeC,List.length_map,hx,u3,s1,s2,s3,elemTy]
     refine ⟨⟨by decide,by decide⟩,?_⟩
     refine retF_at ⟨fun i hi=>by (have:=far hi; simp only [upd,this,if_false]; exact hgo i hi),fun i h5 hi=>by (have:=far hi; simp only [upd,this,h5,if_false]; exact hoo i h5 hi),rfl,⟨by simp [upd,hg],_,lc,pc,_,rfl,?_,hl,?_⟩⟩
     ·exact .inr ⟨by simp [addX],3223,.inr rfl,by simp [upd,c1,addX],by simp [upd,c1,addX,codeC]⟩
     ·exact .inr ⟨by simp [addX],by simp [upd,addX],by simp [upd,addX,flatR_take,useR,c1]⟩
  ·by_cases hlen:st.code.length = 16384
   ·rw [endA_full e4 hlen] at hP
    subst hP
    have hli:((st.code.length:Nat):Int) = 16384:=by omega
    simp only [go_sem,↓reduceIte,H,fC,codeC,List.length_map,c3,hli]
    exact retF_at ⟨hgo,hoo,rfl⟩
   have hli:¬ ((st.code.length:Nat):Int) = 16384:=by omega
   rw [endA_ins e6 e4 hlen,hsh] at hP
   subst hP
   by_cases hx:xl = []
   ·rw [show useX st line xl = st from if_pos hx]
    subst hx
    simp only [go_sem,↓reduceIte,H,fC,codeC,List.length_map,c3,hli]
    refine hook_pure rfl (by simp only [go_sem,↓reduceIte]; exact OpR_A op) (by simp only [go_sem,↓reduceIte]; rfl) ?_
    rintro _ rfl
    rcases hsc with ⟨s1,s2,s3,hfx⟩ | ⟨s1,s2,s3,hfx⟩ | ⟨s1,s2,s3,hfx⟩ | ⟨s1,s2,s3,hfx⟩
    ·rw [hfx]
     simp only [go_sem,↓reduceIte,H,fC,codeC,List.length_map,c3,hli,s1,s2,s3,buildA]
     refine draw_det Tt_ok mixed [3017] [([10],[],[],false),([191],[],[],false),([10],[0],[],false),([193],[0],[],false),([17],[],[],false),([195,192],[],[0],false),([17],[],[],false),([196,194],[],[],true)] 1 (by decide +kernel) rfl (by decide) ?_
     simp only [go_sem,↓reduceIte]
     iterate 5 (apply det_pure; · (intro fa ga oa K' hK; simp only [go_sem,↓reduceIte,H,fC,codeC,List.length_map,c3,hli,s1,s2,s3] at hK ⊢; exact hK))
     (apply det_store; (focus simp); (focus (intro fa ga oa K' hK; simp only [go_sem,↓reduceIte,H,fC,codeC,List.length_map,c3,hli,s1,s2,s3] at hK ⊢; exact hK)))
     (apply det_pure; · (intro fa ga oa K' hK; simp only [go_sem,↓reduceIte,H,fC,codeC,List.length_map,c3,hli,s1,s2,s3] at hK ⊢; exact hK))
     apply det_last
     intro K' hK'
     simp only [go_sem,↓reduceIte,H,fC,codeC,List.length_map,c3,hli,s1,s2,s3]
     refine hK' _ ?_
     clear hK' K'
     simp only [go_sem,↓reduceIte,H,fC,codeC,List.length_map,c3,hli,s1,s2,s3]
     refine hook_pure rfl (by simp only [go_sem,↓reduceIte]; exact Enc_X _ _ _ _) (by simp only [go_sem,↓reduceIte]; rfl) ?_
     rintro _ ⟨e,rfl⟩
     simp only [go_sem,↓reduceIte,H,fC,codeC,List.length_map,c3,hli,s1,s2,s3,elemTy]
     refine ⟨Nat.le_refl _,⟨by decide,by omega⟩,?_⟩
     refine retF_at ⟨fun i hi=>by (have:=far hi; simp only [upd,this,if_false]; exact hgo i hi),fun i h5 hi=>by (have:=far hi; simp only [upd,this,h5,if_false]; exact hoo i h5 hi),rfl,⟨by simp [upd,hg],_,lc,pc,_,rfl,?_,hl,?_⟩⟩
     ·exact .inr ⟨by simp [addX],3172,.inl rfl,by simp [upd,addX],by simp [upd,addX,codeC,List.take_of_length_le]⟩
     ·exact hu
    ·rw [hfx]
     simp only [go_sem,↓reduceIte,H,fC,codeC,List.length_map,c3,hli,s1,s2,s3,buildA]
     refine draw_det Tt_ok mixed [3017] [([10],[],[],false),([199],[],[],false),([10],[0],[],false),([201],[0],[],false),([17],[],[],false),([203,200],[],[0],false),([17],[],[],false),([204,202],[],[],true)] 1 (by decide +kernel) rfl (by decide) ?_
     simp only [go_sem,↓reduceIte]
     iterate 5 (apply det_pure; · (intro fa ga oa K' hK; simp only [go_sem,↓reduceIte,H,fC,codeC,List.length_map,c3,hli,s1,s2,s3] at hK ⊢; exact hK))
     (apply det_store; (focus simp); (focus (intro fa ga oa K' hK; simp only [go_sem,↓reduceIte,H,fC,codeC,List.length_map,c3,hli,s1,s2,s3] at hK ⊢; exact hK)))
     (apply det_pure; · (intro fa ga oa K' hK; simp only [go_sem,↓reduceIte,H,fC,codeC,List.length_map,c3,hli,s1,s2,s3] at hK ⊢; exact hK))
     apply det_last
     intro K' hK'
     simp only [go_sem,↓reduceIte,H,fC,codeC,List.length_map,c3,hli,s1,s2,s3]
     refine hK' _ ?_
     clear hK' K'
     simp only [go_sem,↓reduceIte,H,fC,codeC,List.length_map,c3,hli,s1,s2,s3]
     refine hook_pure rfl (by simp only [go_sem,↓reduceIte]; exact Enc_X _ _ _ _) (by simp only [go_sem,↓reduceIte]; rfl) ?_
     rintro _ ⟨e,rfl⟩
     simp only [go_sem,↓reduceIte,H,fC,codeC,List.length_map,c3,hli,s1,s2,s3,elemTy]
     refine ⟨Nat.le_refl _,⟨by decide,by omega⟩,?_⟩
     refine retF_at ⟨fun i hi=>by (have:=far hi; simp only [upd,this,if_false]; exact hgo i hi),fun i h5 hi=>by (have:=far hi; simp only [upd,this,h5,if_false]; exact hoo i h5 hi),rfl,⟨by simp [upd,hg],_,lc,pc,_,rfl,?_,hl,?_⟩⟩
     ·exact .inr ⟨by simp [addX],3172,.inl rfl,by simp [upd,addX],by simp [upd,addX,codeC,List.take_of_length_le]⟩
     ·exact hu
    ·rw [hfx]
     simp only [go_sem,↓reduceIte,H,fC,codeC,List.length_map,c3,hli,s1,s2,s3,buildA]
     refine hook_pure rfl (by simp only [go_sem,↓reduceIte]; exact Enc_X _ _ _ _) (by simp only [go_sem,↓reduceIte]; rfl) ?_
     rintro _ ⟨e,rfl⟩
     simp only [go_sem,↓reduceIte,H,fC,codeC,List.length_map,c3,hli,s1,s2,s3,elemTy]
     refine ⟨Nat.le_refl _,⟨by decide,by omega⟩,?_⟩
     refine retF_at ⟨fun i hi=>by (have:=far hi; simp only [upd,this,if_false]; exact hgo i hi),fun i h5 hi=>by (have:=far hi; simp only [upd,this,h5,if_false]; exact hoo i h5 hi),rfl,⟨by simp [upd,hg],_,lc,pc,_,rfl,?_,hl,?_⟩⟩
     ·exact .inr ⟨by simp [addX],3172,.inl rfl,by simp [upd,addX],by simp [upd,addX,codeC,List.take_of_length_le]⟩
     ·exact hu
    ·rw [hfx]
     simp only [go_sem,↓reduceIte,H,fC,codeC,List.length_map,c3,hli,s1,s2,s3,buildA]
     refine draw_det Tt_ok mixed [3017] [([10],[],[],false),([180],[],[],false),([10],[0],[],false),([182],[0],[],false),([10],[0],[],false),([184],[0],[],false),([17],[],[],false),([186,181],[],[0],false),([17],[],[],false),([187,183],[],[0],false),([17],[],[],false),([188,185],[],[],true)] 1 (by decide +kernel) rfl (by decide) ?_
     simp only [go_sem,↓reduceIte]
     iterate 7 (apply det_pure; · (intro fa ga oa K' hK; simp only [go_sem,↓reduceIte,H,fC,codeC,List.length_map,c3,hli,s1,s2,s3] at hK ⊢; exact hK))
     (apply det_store; (focus simp); (focus (intro fa ga oa K' hK; simp only [go_sem,↓reduceIte,H,fC,codeC,List.length_map,c3,hli,s1,s2,s3] at hK ⊢; exact hK)))
     (apply det_pure; · (intro fa ga oa K' hK; simp only [go_sem,↓reduceIte,H,fC,codeC,List.length_map,c3,hli,s1,s2,s3] at hK ⊢; exact hK))
     (apply det_store; (focus simp); (focus (intro fa ga oa K' hK; simp only [go_sem,↓reduceIte,H,fC,codeC,List.length_map,c3,hli,s1,s2,s3] at hK ⊢; exact hK)))
     (apply det_pure; · (intro fa ga oa K' hK; simp only [go_sem,↓reduceIte,H,fC,codeC,List.length_map,c3,hli,s1,s2,s3] at hK ⊢; exact hK))
     apply det_last
     intro K' hK'
     simp only [go_sem,↓reduceIte,H,fC,codeC,List.length_map,c3,hli,s1,s2,s3]
     refine hK' _ ?_
     clear hK' K'
     simp only [go_sem,↓reduceIte,H,fC,codeC,List.length_map,c3,hli,s1,s2,s3]
     refine hook_pure rfl (by simp only [go_sem,↓reduceIte]; exact Enc_X _ _ _ _) (by simp only [go_sem,↓reduceIte]; rfl) ?_
     rintro _ ⟨e,rfl⟩
     simp only [go_sem,↓reduceIte,H,fC,codeC,List.length_map,c3,hli,s1,s2,s3,elemTy]
     refine ⟨Nat.le_refl _,⟨by decide,by omega⟩,?_⟩
     refine retF_at ⟨fun i hi=>by (have:=far hi; simp only [upd,this,if_false]; exact hgo i hi),fun i h5 hi=>by (have:=far hi; simp only [upd,this,h5,if_false]; exact hoo i h5 hi),rfl,⟨by simp [upd,hg],_,lc,pc,_,rfl,?_,hl,?_⟩⟩
     ·exact .inr ⟨by simp [addX],3172,.inl rfl,by simp [upd,addX],by simp [upd,addX,codeC,List.take_of_length_le]⟩
     ·exact hu
   rw [show useX st line xl = { st with uses:=st.uses ++ [(line,st.code.length,xl)] } from if_neg hx]
   rcases hu with ⟨u1,rfl⟩ | ⟨u1,rfl,u3⟩
   ·simp only [go_sem,↓reduceIte,H,fC,codeC,List.length_map,c3,hli,hx]
    refine draw_det Tt_ok mixed [3156,3157,20] [([0],[0,1],[],false),([0],[0],[],false),([143],[0],[],false),([144],[0],[],false),([145],[0],[],false),([12],[],[],false),([3],[],[],false),([0],[],[],false),([149],[],[],false),([150],[],[],false),([151],[],[],false),([152],[],[],false),([153],[],[],false),([147,148,154],[],[],false),([155],[],[0],false),([146,156],[],[1],false),([142],[],[],false),([158],[],[],false),([159,157],[],[],true)] 3 (by decide +kernel) rfl (by decide) ?_
    simp only [go_sem,↓reduceIte]
    iterate 13 (apply det_pure; · (intro fa ga oa K' hK; simp only [go_sem,↓reduceIte,H,fC,codeC,List.length_map,c3,hli,hx] at hK ⊢; exact hK))
    (apply det_pure; · (intro fa ga oa K' hK; simp only [go_sem,↓reduceIte,buildA] at hK ⊢; exact hK))
    (apply det_new; · (intro fa ga oa K' hK; simp only [go_sem,↓reduceIte,H,fC,codeC,List.length_map,c3,hli,hx,elemTy] at hK ⊢; exact hK))
    (apply det_new; · (intro fa ga oa K' hK; simp only [go_sem,↓reduceIte,H,fC,codeC,List.length_map,c3,hli,hx,elemTy] at hK ⊢; first | exact ⟨⟨by decide,by decide⟩,hK⟩ | exact ⟨⟨by decide,by omega⟩,hK⟩ | exact ⟨Nat.le_of_eq (flatR_len _).symm,⟨by decide,by omega⟩,hK⟩ | exact ⟨Nat.le_refl _,⟨by decide,by omega⟩,hK⟩))
    iterate 2 (apply det_pure; · (intro fa ga oa K' hK; simp only [go_sem,↓reduceIte,H,fC,codeC,List.length_map,c3,hli,hx] at hK ⊢; exact hK))
    apply det_last
    intro K' hK'
    simp only [go_sem,↓reduceIte,H,fC,codeC,List.length_map,c3,hli,hx]
    refine hK' _ ?_
    clear hK' K'
    simp only [go_sem,↓reduceIte,H,fC,codeC,List.length_map,c3,hli,hx]
    refine hook_pure rfl (by simp only [go_sem,↓reduceIte]; exact OpR_A op) (by simp only [go_sem,↓reduceIte]; rfl) ?_
    rintro _ rfl
    rcases hsc with ⟨s1,s2,s3,hfx⟩ | ⟨s1,s2,s3,hfx⟩ | ⟨s1,s2,s3,hfx⟩ | ⟨s1,s2,s3,hfx⟩
    ·rw [hfx]
     simp only [go_sem,↓reduceIte,H,fC,codeC,List.length_map,c3,hli,hx,s1,s2,s3,buildA]
     refine draw_det Tt_ok mixed [3017] [([10],[],[],false),([191],[],[],false),([10],[0],[],false),([193],[0],[],false),([17],[],[],false),([195,192],[],[0],false),([17],[],[],false),([196,194],[],[],true)] 1 (by decide +kernel) rfl (by decide) ?_
     simp only [go_sem,↓reduceIte]
     iterate 5 (apply det_pure; · (intro fa ga oa K' hK; simp only [go_sem,↓reduceIte,H,fC,codeC,List.length_map,c3,hli,hx,s1,s2,s3] at hK ⊢; exact hK))
     (apply det_store; (focus simp); (focus (intro fa ga oa K' hK; simp only [go_sem,↓reduceIte,H,fC,codeC,List.length_map,c3,hli,hx,s1,s2,s3] at hK ⊢; exact hK)))
     (apply det_pure; · (intro fa ga oa K' hK; simp only [go_sem,↓reduceIte,H,fC,codeC,List.length_map,c3,hli,hx,s1,s2,s3] at hK ⊢; exact hK))
     apply det_last
     intro K' hK'
     simp only [go_sem,↓reduceIte,H,fC,codeC,List.length_map,c3,hli,hx,s1,s2,s3]
     refine hK' _ ?_
     clear hK' K'
     simp only [go_sem,↓reduceIte,H,fC,codeC,List.length_map,c3,hli,hx,s1,s2,s3]
     refine hook_pure rfl (by simp only [go_sem,↓reduceIte]; exact Enc_X _ _ _ _) (by simp only [go_sem,↓reduceIte]; rfl) ?_
     rintro _ ⟨e,rfl⟩
     simp only [go_sem,↓reduceIte,H,fC,codeC,List.length_map,c3,hli,hx,s1,s2,s3,elemTy]
     refine ⟨Nat.le_refl _,⟨by decide,by omega⟩,?_⟩
     refine retF_at ⟨fun i hi=>by (have:=far hi; simp only [upd,this,if_false]; exact hgo i hi),fun i h5 hi=>by (have:=far hi; simp only [upd,this,h5,if_false]; exact hoo i h5 hi),rfl,⟨by simp [upd,hg],_,lc,pc,_,rfl,?_,hl,?_⟩⟩
     ·exact .inr ⟨by simp [addX],3172,.inl rfl,by simp [upd,addX],by simp [upd,addX,codeC,List.take_of_length_le]⟩
     ·exact .inr ⟨by simp [addX],by simp [upd,u1,addX],by simp [upd,u1,addX,useR]⟩
    ·rw [hfx]
     simp only [go_sem,↓reduceIte,H,fC,codeC,List.length_map,c3,hli,hx,s1,s2,s3,buildA]
     refine draw_det Tt_ok mixed [3017] [([10],[],[],false),([199],[],[],false),([10],[0],[],false),([201],[0],[],false),([17],[],[],false),([203,200],[],[0],false),([17],[],[],false),([204,202],[],[],true)] 1 (by decide +kernel) rfl (by decide) ?_
     simp only [go_sem,↓reduceIte]
     iterate 5 (apply det_pure; · (intro fa ga oa K' hK; simp only [go_sem,↓reduceIte,H,fC,codeC,List.length_map,c3,hli,hx,s1,s2,s3] at hK ⊢; exact hK))
     (apply det_store; (focus simp); (focus (intro fa ga oa K' hK; simp only [go_sem,↓reduceIte,H,fC,codeC,List.length_map,c3,hli,hx,s1,s2,s3] at hK ⊢; exact hK)))
     (apply det_pure; · (intro fa ga oa K' hK; simp only [go_sem,↓reduceIte,H,fC,codeC,List.length_map,c3,hli,hx,s1,s2,s3] at hK ⊢; exact hK))
     apply det_last
     intro K' hK'
     simp only [go_sem,↓reduceIte,H,fC,codeC,List.length_map,c3,hli,hx,s1,s2,s3]
     refine hK' _ ?_
     clear hK' K'
     simp only [go_sem,↓reduceIte,H,fC,codeC,List.length_map,c3,hli,hx,s1,s2,s3]
     refine hook_pure rfl (by simp only [go_sem,↓reduceIte]; exact Enc_X _ _ _ _) (by simp only [go_sem,↓reduceIte]; rfl) ?_
     rintro _ ⟨e,rfl⟩
     simp only [go_sem,↓reduceIte,H,fC,codeC,List.length_map,c3,hli,hx,s1,s2,s3,elemTy]
     refine ⟨Nat.le_refl _,⟨by decide,by omega⟩,?_⟩
     refine retF_at ⟨fun i hi=>by (have:=far hi; simp only [upd,this,if_false]; exact hgo i hi),fun i h5 hi=>by (have:=far hi; simp only [upd,this,h5,if_false]; exact hoo i h5 hi),rfl,⟨by simp [upd,hg],_,lc,pc,_,rfl,?_,hl,?_⟩⟩
     ·exact .inr ⟨by simp [addX],3172,.inl rfl,by simp [upd,addX],by simp [upd,addX,codeC,List.take_of_length_le]⟩
     ·exact .inr ⟨by simp [addX],by simp [upd,u1,addX],by simp [upd,u1,addX,useR]⟩
    ·rw [hfx]
     simp only [go_sem,↓reduceIte,H,fC,codeC,List.length_map,c3,hli,hx,s1,s2,s3,buildA]
     refine hook_pure rfl (by simp only [go_sem,↓reduceIte]; exact Enc_X _ _ _ _) (by simp only [go_sem,↓reduceIte]; rfl) ?_
     rintro _ ⟨e,rfl⟩
     simp only [go_sem,↓reduceIte,H,fC,codeC,List.length_map,c3,hli,hx,s1,s2,s3,elemTy]
     refine ⟨Nat.le_refl _,⟨by decide,by omega⟩,?_⟩
     refine retF_at ⟨fun i hi=>by (have:=far hi; simp only [upd,this,if_false]; exact hgo i hi),fun i h5 hi=>by (have:=far hi; simp only [upd,this,h5,if_false]; exact hoo i h5 hi),rfl,⟨by simp [upd,hg],_,lc,pc,_,rfl,?_,hl,?_⟩⟩
     ·exact .inr ⟨by simp [addX],3172,.inl rfl,by simp [upd,addX],by simp [upd,addX,codeC,List.take_of_length_le]⟩
     ·exact .inr ⟨by simp [addX],by simp [upd,u1,addX],by simp [upd,u1,addX,useR]⟩
    ·rw [hfx]
     simp only [go_sem,↓reduceIte,H,fC,codeC,List.length_map,c3,hli,hx,s1,s2,s3,buildA]
     refine draw_det Tt_ok mixed [3017] [([10],[],[],false),([180],[],[],false),([10],[0],[],false),([182],[0],[],false),([10],[0],[],false),([184],[0],[],false),([17],[],[],false),([186,181],[],[0],false),([17],[],[],false),([187,183],[],[0],false),([17],[],[],false),([188,185],[],[],true)] 1 (by decide +kernel) rfl (by decide) ?_
     simp only [go_sem,↓reduceIte]
     iterate 7 (apply det_pure; · (intro fa ga oa K' hK; simp only [go_sem,↓reduceIte,H,fC,codeC,List.length_map,c3,hli,hx,s1,s2,s3] at hK ⊢; exact hK))
     (apply det_store; (focus simp); (focus (intro fa ga oa K' hK; simp only [go_sem,↓reduceIte,H,fC,codeC,List.length_map,c3,hli,hx,s1,s2,s3] at hK ⊢; exact hK)))
     (apply det_pure; · (intro fa ga oa K' hK; simp only [go_sem,↓reduceIte,H,fC,codeC,List.length_map,c3,hli,hx,s1,s2,s3] at hK ⊢; exact hK))
     (apply det_store; (focus simp); (focus (intro fa ga oa K' hK; simp only [go_sem,↓reduceIte,H,fC,codeC,List.length_map,c3,hli,hx,s1,s2,s3] at hK ⊢; exact hK)))
     (apply det_pure; · (intro fa ga oa K' hK; simp only [go_sem,↓reduceIte,H,fC,codeC,List.length_map,c3,hli,hx,s1,s2,s3] at hK ⊢; exact hK))
     apply det_last
     intro K' hK'
     simp only [go_sem,↓reduceIte,H,fC,codeC,List.length_map,c3,hli,hx,s1,s2,s3]
     refine hK' _ ?_
     clear hK' K'
     simp only [go_sem,↓reduceIte,H,fC,codeC,List.length_map,c3,hli,hx,s1,s2,s3]
     refine hook_pure rfl (by simp only [go_sem,↓reduceIte]; exact Enc_X _ _ _ _) (by simp only [go_sem,↓reduceIte]; rfl) ?_
     rintro _ ⟨e,rfl⟩
     simp only [go_sem,↓reduceIte,H,fC,codeC,List.length_map,c3,hli,hx,s1,s2,s3,elemTy]
     refine ⟨Nat.le_refl _,⟨by decide,by omega⟩,?_⟩
     refine retF_at ⟨fun i hi=>by (have:=far hi; simp only [upd,this,if_false]; exact hgo i hi),fun i h5 hi=>by (have:=far hi; simp only [upd,this,h5,if_false]; exact hoo i h5 hi),rfl,⟨by simp [upd,hg],_,lc,pc,_,rfl,?_,hl,?_⟩⟩
     ·exact .inr ⟨by simp [addX],3172,.inl rfl,by simp [upd,addX],by simp [upd,addX,codeC,List.take_of_length_le]⟩
     ·exact .inr ⟨by simp [addX],by simp [upd,u1,addX],by simp [upd,u1,addX,useR]⟩
   ·simp only [go_sem,↓reduceIte,H,fC,codeC,List.length_map,c3,hli,hx,u3]
    refine draw_det Tt_ok mixed [3156,3157,20] [([0],[0,1],[],false),([0],[0],[],false),([143],[0],[],false),([144],[0],[],false),([145],[0],[],false),([12],[],[],false),([3],[],[],false),([0],[],[],false),([149],[],[],false),([150],[],[],false),([151],[],[],false),([152],[],[],false),([153],[],[],false),([147,148,154],[],[],false),([155],[],[0],false),([146,156],[],[1],false),([142],[],[],false),([158],[],[],false),([159,157],[],[],true)] 3 (by decide +kernel) rfl (by decide) ?_
    simp only [go_sem,↓reduceIte]
    iterate 13 (apply det_pure; · (intro fa ga oa K' hK; simp only [go_sem,↓reduceIte,H,fC,codeC,List.length_map,c3,hli,hx,u3] at hK ⊢; exact hK))
    (apply det_pure; · (intro fa ga oa K' hK; simp only [go_sem,↓reduceIte,buildA] at hK ⊢; exact hK))
    (apply det_new; · (intro fa ga oa K' hK; simp only [go_sem,↓reduceIte,H,fC,codeC,List.length_map,c3,hli,hx,u3,elemTy] at hK ⊢; exact hK))
    (apply det_new; · (intro fa ga oa K' hK; simp only [go_sem,↓reduceIte,H,fC,codeC,List.length_map,c3,hli,hx,u3,elemTy] at hK ⊢; first | exact ⟨⟨by decide,by decide⟩,hK⟩ | exact ⟨⟨by decide,by omega⟩,hK⟩ | exact ⟨Nat.le_of_eq (flatR_len _).symm,⟨by decide,by omega⟩,hK⟩ | exact ⟨Nat.le_refl _,⟨by decide,by omega⟩,hK⟩))
    iterate 2 (apply det_pure; · (intro fa ga oa K' hK; simp only [go_sem,↓reduceIte,H,fC,codeC,List.length_map,c3,hli,hx,u3] at hK ⊢; exact hK))
    apply det_last
    intro K' hK'
    simp only [go_sem,↓reduceIte,H,fC,codeC,List.length_map,c3,hli,hx,u3]
    refine hK' _ ?_
    clear hK' K'
    simp only [go_sem,↓reduceIte,H,fC,codeC,List.length_map,c3,hli,hx,u3]
    refine hook_pure rfl (by simp only [go_sem,↓reduceIte]; exact OpR_A op) (by simp only [go_sem,↓reduceIte]; rfl) ?_
    rintro _ rfl
    rcases hsc with ⟨s1,s2,s3,hfx⟩ | ⟨s1,s2,s3,hfx⟩ | ⟨s1,s2,s3,hfx⟩ | ⟨s1,s2,s3,hfx⟩
    ·rw [hfx]
     simp only [go_sem,↓reduceIte,H,fC,codeC,List.length_map,c3,hli,hx,u3,s1,s2,s3,buildA]
     refine draw_det Tt_ok mixed [3017] [([10],[],[],false),([191],[],[],false),([10],[0],[],false),([193],[0],[],false),([17],[],[],false),([195,192],[],[0],false),([17],[],[],false),([196,194],[],[],true)] 1 (by decide +kernel) rfl (by decide) ?_
     simp only [go_sem,↓reduceIte]
     iterate 5 (apply det_pure; · (intro fa ga oa K' hK; simp only [go_sem,↓reduceIte,H,fC,codeC,List.length_map,c3,hli,hx,u3,s1,s2,s3] at hK ⊢; exact hK))
     (apply det_store; (focus simp); (focus (intro fa ga oa K' hK; simp only [go_sem,↓reduceIte,H,fC,codeC,List.length_map,c3,hli,hx,u3,s1,s2,s3] at hK ⊢; exact hK)))
     (apply det_pure; · (intro fa ga oa K' hK; simp only [go_sem,↓reduceIte,H,fC,codeC,List.length_map,c3,hli,hx,u3,s1,s2,s3] at hK ⊢; exact hK))
     apply det_last
     intro K' hK'
     simp only [go_sem,↓reduceIte,H,fC,codeC,List.length_map,c3,hli,hx,u3,s1,s2,s3]
     refine hK' _ ?_
     clear hK' K'
     simp only [go_sem,↓reduceIte,H,fC,codeC,List.length_map,c3,hli,hx,u3,s1,s2,s3]
     refine hook_pure rfl (by simp only [go_sem,↓reduceIte]; exact Enc_X _ _ _ _) (by simp only [go_sem,↓reduceIte]; rfl) ?_
     rintro _ ⟨e,rfl⟩
     simp only [go_sem,↓reduceIte,H,fC,codeC,List.length_map,c3,hli,hx,u3,s1,s2,s3,elemTy]
     refine ⟨Nat.le_refl _,⟨by decide,by omega⟩,?_⟩
     refine retF_at ⟨fun i hi=>by (have:=far hi; simp only [upd,this,if_false]; exact hgo i hi),fun i h5 hi=>by (have:=far hi; simp only [upd,this,h5,if_false]; exact hoo i h5 hi),rfl,⟨by simp [upd,hg],_,lc,pc,_,rfl,?_,hl,?_⟩⟩
     ·exact .inr ⟨by simp [addX],3172,.inl rfl,by simp [upd,addX],by simp [upd,addX,codeC,List.take_of_length_le]⟩
     ·exact .inr ⟨by simp [addX],by simp [upd,addX],by simp [upd,addX,flatR_take,useR]⟩
    ·rw [hfx]
     simp only [go_sem,↓reduceIte,H,fC,codeC,List.length_map,c3,hli,hx,u3,s1,s2,s3,buildA]
     refine draw_det Tt_ok mixed [3017] [([10],[],[],false),([199],[],[],false),([10],[0],[],false),([201],[0],[],false),([17],[],[],false),([203,200],[],[0],false),([17],[],[],false),([204,202],[],[],true)] 1 (by decide +kernel) rfl (by decide) ?_
     simp only [go_sem,↓reduceIte]
     iterate 5 (apply det_pure; · (intro fa ga oa K' hK; simp only [go_sem,↓reduceIte,H,fC,codeC,List.length_map,c3,hli,hx,u3,s1,s2,s3] at hK ⊢; exact hK))
     (apply det_store; (focus simp); (focus (intro fa ga oa K' hK; simp only [go_sem,↓reduceIte,H,fC,codeC,List.length_map,c3,hli,hx,u3,s1,s2,s3] at hK ⊢; exact hK)))
     (apply det_pure; · (intro fa ga oa K' hK; simp only [go_sem,↓reduceIte,H,fC,codeC,List.length_map,c3,hli,hx,u3,s1,s2,s3] at hK ⊢; exact hK))
     apply det_last
     intro K' hK'
     simp only [go_sem,↓reduceIte,H,fC,codeC,List.length_map,c3,hli,hx,u3,s1,s2,s3]
     refine hK' _ ?_
     clear hK' K'
     simp only [go_sem,↓reduceIte,H,fC,codeC,List.length_map,c3,hli,hx,u3,s1,s2,s3]
     refine hook_pure rfl (by simp only [go_sem,↓reduceIte]; exact Enc_X _ _ _ _) (by simp only [go_sem,↓reduceIte]; rfl) ?_
     rintro _ ⟨e,rfl⟩
     simp only [go_sem,↓reduceIte,H,fC,codeC,List.length_map,c3,hli,hx,u3,s1,s2,s3,elemTy]
     refine ⟨Nat.le_refl _,⟨by decide,by omega⟩,?_⟩
     refine retF_at ⟨fun i hi=>by (have:=far hi; simp only [upd,this,if_false]; exact hgo i hi),fun i h5 hi=>by (have:=far hi; simp only [upd,this,h5,if_false]; exact hoo i h5 hi),rfl,⟨by simp [upd,hg],_,lc,pc,_,rfl,?_,hl,?_⟩⟩
     ·exact .inr ⟨by simp [addX],3172,.inl rfl,by simp [upd,addX],by simp [upd,addX,codeC,List.take_of_length_le]⟩
     ·exact .inr ⟨by simp [addX],by simp [upd,addX],by simp [upd,addX,flatR_take,useR]⟩
    ·rw [hfx]
     simp only [go_sem,↓reduceIte,H,fC,codeC,List.length_map,c3,hli,hx,u3,s1,s2,s3,buildA]
     refine hook_pure rfl (by simp only [go_sem,↓reduceIte]; exact Enc_X _ _ _ _) (by simp only [go_sem,↓reduceIte]; rfl) ?_
     rintro _ ⟨e,rfl⟩
     simp only [go_sem,↓reduceIte,H,fC,codeC,List.length_map,c3,hli,hx,u3,s1,s2,s3,elemTy]
     refine ⟨Nat.le_refl _,⟨by decide,by omega⟩,?_⟩
     refine retF_at ⟨fun i hi=>by (have:=far hi; simp only [upd,this,if_false]; exact hgo i hi),fun i h5 hi=>by (have:=far hi; simp only [upd,this,h5,if_false]; exact hoo i h5 hi),rfl,⟨by simp [upd,hg],_,lc,pc,_,rfl,?_,hl,?_⟩⟩
     ·exact .inr ⟨by simp [addX],3172,.inl rfl,by simp [upd,addX],by simp [upd,addX,codeC,List.take_of_length_le]⟩
     ·exact .inr ⟨by simp [addX],by simp [upd,addX],by simp [upd,addX,flatR_take,useR]⟩
    ·rw [hfx]
     simp only [go_sem,↓reduceIte,H,fC,codeC,List.length_map,c3,hli,hx,u3,s1,s2,s3,buildA]
     refine draw_det Tt_ok mixed [3017] [([10],[],[],false),([180],[],[],false),([10],[0],[],false),([182],[0],[],false),([10],[0],[],false),([184],[0],[],false),([17],[],[],false),([186,181],[],[0],false),([17],[],[],false),([187,183],[],[0],false),([17],[],[],false),([188,185],[],[],true)] 1 (by decide +kernel) rfl (by decide) ?_
     simp only [go_sem,↓reduceIte]
     iterate 7 (apply det_pure; · (intro fa ga oa K' hK; simp only [go_sem,↓reduceIte,H,fC,codeC,List.length_map,c3,hli,hx,u3,s1,s2,s3] at hK ⊢; exact hK))
     (apply det_store; (focus simp); (focus (intro fa ga oa K' hK; simp only [go_sem,↓reduceIte,H,fC,codeC,List.length_map,c3,hli,hx,u3,s1,s2,s3] at hK ⊢; exact hK)))
     (apply det_pure; · (intro fa ga oa K' hK; simp only [go_sem,↓reduceIte,H,fC,codeC,List.length_map,c3,hli,hx,u3,s1,s2,s3] at hK ⊢; exact hK))
     (apply det_store; (focus simp); (focus (intro fa ga oa K' hK; simp only [go_sem,↓reduceIte,H,fC,codeC,List.length_map,c3,hli,hx,u3,s1,s2,s3] at hK ⊢; exact hK)))
     (apply det_pure; · (intro fa ga oa K' hK; simp only [go_sem,↓reduceIte,H,fC,codeC,List.length_map,c3,hli,hx,u3,s1,s2,s3] at hK ⊢; exact hK))
     apply det_last
     intro K' hK'
     simp only [go_sem,↓reduceIte,H,fC,codeC,List.length_map,c3,hli,hx,u3,s1,s2,s3]
     refine hK' _ ?_
     clear hK' K'
     simp only [go_sem,↓reduceIte,H,fC,codeC,List.length_map,c3,hli,hx,u3,s1,s2,s3]
     refine hook_pure rfl (by simp only [go_sem,↓reduceIte]; exact Enc_X _ _ _ _) (by simp only [go_sem,↓reduceIte]; rfl) ?_
     rintro _ ⟨e,rfl⟩
     simp only [go_sem,↓reduceIte,H,fC,codeC,List.length_map,c3,hli,hx,u3,s1,s2,s3,elemTy]
     refine ⟨Nat.le_refl _,⟨by decide,by omega⟩,?_⟩
     refine retF_at ⟨fun i hi=>by (have:=far hi; simp only [upd,this,if_false]; exact hgo i hi),fun i h5 hi=>by (have:=far hi; simp only [upd,this,h5,if_false]; exact hoo i h5 hi),rfl,⟨by simp [upd,hg],_,lc,pc,_,rfl,?_,hl,?_⟩⟩
     ·exact .inr ⟨by simp [addX],3172,.inl rfl,by simp [upd,addX],by simp [upd,addX,codeC,List.take_of_length_le]⟩
     ·exact .inr ⟨by simp [addX],by simp [upd,addX],by simp [upd,addX,flatR_take,useR]⟩
  ·by_cases hlen:st.code.length = 16384
   ·rw [endA_full e4 hlen] at hP
    subst hP
    have hli:((st.code.length:Nat):Int) = 16384:=by omega
    simp only [go_sem,↓reduceIte,H,fC,codeC,List.length_map,c3,hli]
    exact retF_at ⟨hgo,hoo,rfl⟩
   have hli:¬ ((st.code.length:Nat):Int) = 16384:=by omega
   rw [endA_ins e6 e4 hlen,hsh] at hP
   subst hP
   by_cases hx:xl = []
   ·rw [show useX st line xl = st from if_pos hx]
    subst hx
    simp only [go_sem,↓reduceIte,H,fC,codeC,List.length_map,c3,hli]
    refine hook_pure rfl (by simp only [go_sem,↓reduceIte]; exact OpR_A op) (by simp only [go_sem,↓reduceIte]; rfl) ?_
    rintro _ rfl
    rcases hsc with ⟨s1,s2,s3,hfx⟩ | ⟨s1,s2,s3,hfx⟩ | ⟨s1,s2,s3,hfx⟩ | ⟨s1,s2,s3,hfx⟩
    ·rw [hfx]
     simp only [go_sem,↓reduceIte,H,fC,codeC,List.length_map,c3,hli,s1,s2,s3,buildA]
     refine draw_det Tt_ok mixed [3017] [([10],[],[],false),([191],[],[],false),([10],[0],[],false),([193],[0],[],false),([17],[],[],false),([195,192],[],[0],false),([17],[],[],false),([196,194],[],[],true)] 1 (by decide +kernel) rfl (by decide) ?_
     simp only [go_sem,↓reduceIte]
     iterate 5 (apply det_pure; · (intro fa ga oa K' hK; simp only [go_sem,↓reduceIte,H,fC,codeC,List.length_map,c3,hli,s1,s2,s3] at hK ⊢; exact hK))
     (apply det_store; (focus simp); (focus (intro fa ga oa K' hK; simp only [go_sem,↓reduceIte,H,fC,codeC,List.length_map,c3,hli,s1,s2,s3] at hK ⊢; exact hK)))
     (apply det_pure; · (intro fa ga oa K' hK; simp only [go_sem,↓reduceIte,H,fC,codeC,List.length_map,c3,hli,s1,s2,s3] at hK ⊢; exact hK))
     apply det_last
     intro K' hK'
     simp only [go_sem,↓reduceIte,H,fC,codeC,List.length_map,c3,hli,s1,s2,s3]
     refine hK' _ ?_
     clear hK' K'
     simp only [go_sem,↓reduceIte,H,fC,codeC,List.length_map,c3,hli,s1,s2,s3]
     refine hook_pure rfl (by simp only [go_sem,↓reduceIte]; exact Enc_X _ _ _ _) (by simp only [go_sem,↓reduceIte]; rfl) ?_
     rintro _ ⟨e,rfl⟩
     simp only [go_sem,↓reduceIte,H,fC,codeC,List.length_map,c3,hli,s1,s2,s3,elemTy]
     refine ⟨Nat.le_refl _,⟨by decide,by omega⟩,?_⟩
     refine retF_at ⟨fun i hi=>by (have:=far hi; simp only [upd,this,if_false]; exact hgo i hi),fun i h5 hi=>by (have:=far hi; simp only [upd,this,h5,if_false]; exact hoo i h5 hi),rfl,⟨by simp [upd,hg],_,lc,pc,_,rfl,?_,hl,?_⟩⟩
     ·exact .inr ⟨by simp [addX],3223,.inr rfl,by simp [upd,addX],by simp [upd,addX,codeC,List.take_of_length_le]⟩
     ·exact hu
    ·rw [hfx]
     simp only [go_sem,↓reduceIte,H,fC,codeC,List.length_map,c3,hli,s1,s2,s3,buildA]
     refine draw_det Tt_ok mixed [3017] [([10],[],[],false),([199],[],[],false),([10],[0],[],false),([201],[0],[],false),([17],[],[],false),([203,200],[],[0],false),([17],[],[],false),([204,202],[],[],true)] 1 (by decide +kernel) rfl (by decide) ?_
     simp only [go_sem,↓reduceIte]
     iterate 5 (apply det_pure; · (intro fa ga oa K' hK; simp only [go_sem,↓reduceIte,H,fC,codeC,List.length_map,c3,hli,s1,s2,s3] at hK ⊢; exact hK))
     (apply det_store; (focus simp); (focus (intro fa ga oa K' hK; simp only [go_sem,↓reduceIte,H,fC,codeC,List.length_map,c3,hli,s1,s2,s3] at hK ⊢; exact hK)))
     (apply det_pure; · (intro fa ga oa K' hK; simp only [go_sem,↓reduceIte,H,fC,codeC,List.length_map,c3,hli,s1,s2,s3] at hK ⊢; exact hK))
     apply det_last
     intro K' hK'
     simp only [go_sem,↓reduceIte,H,fC,codeC,List.length_map,c3,hli,s1,s2,s3]
     refine hK' _ ?_
     clear hK' K'
     simp only [go_sem,↓reduceIte,H,fC,codeC,List.length_map,c3,hli,s1,s2,s3]
     refine hook_pure rfl (by simp only [go_sem,↓reduceIte]; exact Enc_X _ _ _ _) (by simp only [go_sem,↓reduceIte]; rfl) ?_
     rintro _ ⟨e,rfl⟩
     simp only [go_sem,↓reduceIte,H,fC,codeC,List.length_map,c3,hli,s1,s2,s3,elemTy]
     refine ⟨Nat.le_refl _,⟨by decide,by omega⟩,?_⟩
     refine retF_at ⟨fun i hi=>by (have:=far hi; simp only [upd,this,if_false]; exact hgo i hi),fun i h5 hi=>by (have:=far hi; simp only [upd,this,h5,if_false]; exact hoo i h5 hi),rfl,⟨by simp [upd,hg],_,lc,pc,_,rfl,?_,hl,?_⟩⟩
     ·exact .inr ⟨by simp [addX],3223,.inr rfl,by simp [upd,addX],by simp [upd,addX,codeC,List.take_of_length_le]⟩
     ·exact hu
    ·rw [hfx]
     simp only [go_sem,↓reduceIte,H,fC,codeC,List.length_map,c3,hli,s1,s2,s3,buildA]
     refine hook_pure rfl (by simp only [go_sem,↓reduceIte]; exact Enc_X _ _ _ _) (by simp only [go_sem,↓reduceIte]; rfl) ?_
     rintro _ ⟨e,rfl⟩
     simp only [go_sem,↓reduceIte,H,fC,codeC,List.length_map,c3,hli,s1,s2,s3,elemTy]
     refine ⟨Nat.le_refl _,⟨by decide,by omega⟩,?_⟩
     refine retF_at ⟨fun i hi=>by (have:=far hi; simp only [upd,this,if_false]; exact hgo i hi),fun i h5 hi=>by (have:=far hi; simp only [upd,this,h5,if_false]; exact hoo i h5 hi),rfl,⟨by simp [upd,hg],_,lc,pc,_,rfl,?_,hl,?_⟩⟩
     ·exact .inr ⟨by simp [addX],3223,.inr rfl,by simp [upd,addX],by simp [upd,addX,codeC,List.take_of_length_le]⟩
     ·exact hu
    ·rw [hfx]
     simp only [go_sem,↓reduceIte,H,fC,codeC,List.length_map,c3,hli,s1,s2,s3,buildA]
     refine draw_det Tt_ok mixed [3017] [([10],[],[],false),([180],[],[],false),([10],[0],[],false),([182],[0],[],false),([10],[0],[],false),([184],[0],[],false),([17],[],[],false),([186,181],[],[0],false),([17],[],[],false),([187,183],[],[0],false),([17],[],[],false),([188,185],[],[],true)] 1 (by decide +kernel) rfl (by decide) ?_
     simp only [go_sem,↓reduceIte]
     iterate 7 (apply det_pure; · (intro fa ga oa K' hK; simp only [go_sem,↓reduceIte,H,fC,codeC,List.length_map,c3,hli,s1,s2,s3] at hK ⊢; exact hK))
     (apply det_store; (focus simp); (focus (intro fa ga oa K' hK; simp only [go_sem,↓reduceIte,H,fC,codeC,List.length_map,c3,hli,s1,s2,s3] at hK ⊢; exact hK)))
     (apply det_pure; · (intro fa ga oa K' hK; simp only [go_sem,↓reduceIte,H,fC,codeC,List.length_map,c3,hli,s1,s2,s3] at hK ⊢; exact hK))
     (apply det_store; (focus simp); (focus (intro fa ga oa K' hK; simp only [go_sem,↓reduceIte,H,fC,codeC,List.length_map,c3,hli,s1,s2,s3] at hK ⊢; exact hK)))
     (apply det_pure; · (intro fa ga oa K' hK; simp only [go_sem,↓reduceIte,H,fC,codeC,List.length_map,c3,hli,s1,s2,s3] at hK ⊢; exact hK))
     apply det_last
     intro K' hK'
     simp only [go_sem,↓reduceIte,H,fC,codeC,List.length_map,c3,hli,s1,s2,s3]
     refine hK' _ ?_
     clear hK' K'
     simp only [go_sem,↓reduceIte,H,fC,codeC,List.length_map,c3,hli,s1,s2,s3]
     refine hook_pure rfl (by simp only [go_sem,↓reduceIte]; exact Enc_X _ _ _ _) (by simp only [go_sem,↓reduceIte]; rfl) ?_
     rintro _ ⟨e,rfl⟩
     simp only [go_sem,↓reduceIte,H,fC,codeC,List.length_map,c3,hli,s1,s2,s3,elemTy]
     refine ⟨Nat.le_refl _,⟨by decide,by omega⟩,?_⟩
     refine retF_at ⟨fun i hi=>by (have:=far hi; simp only [upd,this,if_false]; exact hgo i hi),fun i h5 hi=>by (have:=far hi; simp only [upd,this,h5,if_false]; exact hoo i h5 hi),rfl,⟨by simp [upd,hg],_,lc,pc,_,rfl,?_,hl,?_⟩⟩
     ·exact .inr ⟨by simp [addX],3223,.inr rfl,by simp [upd,addX],by simp [upd,addX,codeC,List.take_of_length_le]⟩
     ·exact hu
   rw [show useX st line xl = { st with uses:=st.uses ++ [(line,st.code.length,xl)] } from if_neg hx]
   rcases hu with ⟨u1,rfl⟩ | ⟨u1,rfl,u3⟩
   ·simp only [go_sem,↓reduceIte,H,fC,codeC,List.length_map,c3,hli,hx]
    refine draw_det Tt_ok mixed [3156,3157,20] [([0],[0,1],[],false),([0],[0],[],false),([143],[0],[],false),([144],[0],[],false),([145],[0],[],false),([12],[],[],false),([3],[],[],false),([0],[],[],false),([149],[],[],false),([150],[],[],false),([151],[],[],false),([152],[],[],false),([153],[],[],false),([147,148,154],[],[],false),([155],[],[0],false),([146,156],[],[1],false),([142],[],[],false),([158],[],[],false),([159,157],[],[],true)] 3 (by decide +kernel) rfl (by decide) ?_
    simp only [go_sem,↓reduceIte]
    iterate 13 (apply det_pure; · (intro fa ga oa K' hK; simp only [go_sem,↓reduceIte,H,fC,codeC,List.length_map,c3,hli,hx] at hK ⊢; exact hK))
    (apply det_pure; · (intro fa ga oa K' hK; simp only [go_sem,↓reduceIte,buildA] at hK ⊢; exact hK))
    (apply det_new; · (intro fa ga oa K' hK; simp only [go_sem,↓reduceIte,H,fC,codeC,List.length_map,c3,hli,hx,elemTy] at hK ⊢; exact hK))
    (apply det_new; · (intro fa ga oa K' hK; simp only [go_sem,↓reduceIte,H,fC,codeC,List.length_map,c3,hli,hx,elemTy] at hK ⊢; first | exact ⟨⟨by decide,by decide⟩,hK⟩ | exact ⟨⟨by decide,by omega⟩,hK⟩ | exact ⟨Nat.le_of_eq (flatR_len _).symm,⟨by decide,by omega⟩,hK⟩ | exact ⟨Nat.le_refl _,⟨by decide,by omega⟩,hK⟩))
    iterate 2 (apply det_pure; · (intro fa ga oa K' hK; simp only [go_sem,↓reduceIte,H,fC,codeC,List.length_map,c3,hli,hx] at hK ⊢; exact hK))
    apply det_last
    intro K' hK'
    simp only [go_sem,↓reduceIte,H,fC,codeC,List.length_map,c3,hli,hx]
    refine hK' _ ?_
    clear hK' K'
    simp only [go_sem,↓reduceIte,H,fC,codeC,List.length_map,c3,hli,hx]
    refine hook_pure rfl (by simp only [go_sem,↓reduceIte]; exact OpR_A op) (by simp only [go_sem,↓reduceIte]; rfl) ?_
    rintro _ rfl
    rcases hsc with ⟨s1,s2,s3,hfx⟩ | ⟨s1,s2,s3,hfx⟩ | ⟨s1,s2,s3,hfx⟩ | ⟨s1,s2,s3,hfx⟩
    ·rw [hfx]
     simp only [go_sem,↓reduceIte,H,fC,codeC,List.length_map,c3,hli,hx,s1,s2,s3,buildA]
     refine draw_det Tt_ok mixed [3017] [([10],[],[],false),([191],[],[],false),([10],[0],[],false),([193],[0],[],false),([17],[],[],false),([195,192],[],[0],false),([17],[],[],false),([196,194],[],[],true)] 1 (by decide +kernel) rfl (by decide) ?_
     simp only [go_sem,↓reduceIte]
     iterate 5 (apply det_pure; · (intro fa ga oa K' hK; simp only [go_sem,↓reduceIte,H,fC,codeC,List.length_map,c3,hli,hx,s1,s2,s3] at hK ⊢; exact hK))
     (apply det_store; (focus simp); (focus (intro fa ga oa K' hK; simp only [go_sem,↓reduceIte,H,fC,codeC,List.length_map,c3,hli,hx,s1,s2,s3] at hK ⊢; exact hK)))
     (apply det_pure; · (intro fa ga oa K' hK; simp only [go_sem,↓reduceIte,H,fC,codeC,List.length_map,c3,hli,hx,s1,s2,s3] at hK ⊢; exact hK))
     apply det_last
     intro K' hK'
     simp only [go_sem,↓reduceIte,H,fC,codeC,List.length_map,c3,hli,hx,s1,s2,s3]
     refine hK' _ ?_
     clear hK' K'
     simp only [go_sem,↓reduceIte,H,fC,codeC,List.length_map,c3,hli,hx,s1,s2,s3]
     refine hook_pure rfl (by simp only [go_sem,↓reduceIte]; exact Enc_X _ _ _ _) (by simp only [go_sem,↓reduceIte]; rfl) ?_
     rintro _ ⟨e,rfl⟩
     simp only [go_sem,↓reduceIte,H,fC,codeC,List.length_map,c3,hli,hx,s1,s2,s3,elemTy]
     refine ⟨Nat.le_refl _,⟨by decide,by omega⟩,?_⟩
     refine retF_at ⟨fun i hi=>by (have:=far hi; simp only [upd,this,if_false]; exact hgo i hi),fun i h5 hi=>by (have:=far hi; simp only [upd,this,h5,if_false]; exact hoo i h5 hi),rfl,⟨by simp [upd,hg],_,lc,pc,_,rfl,?_,hl,?_⟩⟩
     ·exact .inr ⟨by simp [addX],3223,.inr rfl,by simp [upd,addX],by simp [upd,addX,codeC,List.take_of_length_le]⟩
     ·exact .inr ⟨by simp [addX],by simp [upd,u1,addX],by simp [upd,u1,addX,useR]⟩
    ·rw [hfx]
     simp only [go_sem,↓reduceIte,H,fC,codeC,List.length_map,c3,hli,hx,s1,s2,s3,buildA]
     refine draw_det Tt_ok mixed [3017] [([10],[],[],false),([199],[],[],false),([10],[0],[],false),([201],[0],[],false),([17],[],[],false),([203,200],[],[0],false),([17],[],[],false),([204,202],[],[],true)] 1 (by decide +kernel) rfl (by decide) ?_
     simp only [go_sem,↓reduceIte]
     iterate 5 (apply det_pure; · (intro fa ga oa K' hK; simp only [go_sem,↓reduceIte,H,fC,codeC,List.length_map,c3,hli,hx,s1,s2,s3] at hK ⊢; exact hK))
     (apply det_store; (focus simp); (focus (intro fa ga oa K' hK; simp only [go_sem,↓reduceIte,H,fC,codeC,List.length_map,c3,hli,hx,s1,s2,s3] at hK ⊢; exact hK)))
     (apply det_pure; · (intro fa ga oa K' hK; simp only [go_sem,↓reduceIte,H,fC,codeC,List.length_map,c3,hli,hx,s1,s2,s3] at hK ⊢; exact hK))
     apply det_last
     intro K' hK'
     simp only [go_sem,↓reduceIte,H,fC,codeC,List.length_map,c3,hli,hx,s1,s2,s3]
     refine hK' _ ?_
     clear hK' K'
     simp only [go_sem,↓reduceIte,H,fC,codeC,List.length_map,c3,hli,hx,s1,s2,s3]
     refine hook_pure rfl (by simp only [go_sem,↓reduceIte]; exact Enc_X _ _ _ _) (by simp only [go_sem,↓reduceIte]; rfl) ?_
     rintro _ ⟨e,rfl⟩
     simp only [go_sem,↓reduceIte,H,fC,codeC,List.length_map,c3,hli,hx,s1,s2,s3,elemTy]
     refine ⟨Nat.le_refl _,⟨by decide,by omega⟩,?_⟩
     refine retF_at ⟨fun i hi=>by (have:=far hi; simp only [upd,this,if_false]; exact hgo i hi),fun i h5 hi=>by (have:=far hi; simp only [upd,this,h5,if_false]; exact hoo i h5 hi),rfl,⟨by simp [upd,hg],_,lc,pc,_,rfl,?_,hl,?_⟩⟩
     ·exact .inr ⟨by simp [addX],3223,.inr rfl,by simp [upd,addX],by simp [upd,addX,codeC,List.take_of_length_le]⟩
     ·exact .inr ⟨by simp [addX],by simp [upd,u1,addX],by simp [upd,u1,addX,useR]⟩
    ·rw [hfx]
     simp only [go_sem,↓reduceIte,H,fC,codeC,List.length_map,c3,hli,hx,s1,s2,s3,buildA]
     refine hook_pure rfl (by simp only [go_sem,↓reduceIte]; exact Enc_X _ _ _ _) (by simp only [go_sem,↓reduceIte]; rfl) ?_
     rintro _ ⟨e,rfl⟩
     simp only [go_sem,↓reduceIte,H,fC,codeC,List.length_map,c3,hli,hx,s1,s2,s3,elemTy]
     refine ⟨Nat.le_refl _,⟨by decide,by omega⟩,?_⟩
     refine retF_at ⟨fun i hi=>by (have:=far hi; simp only [upd,this,if_false]; exact hgo i hi),fun i h5 hi=>by (have:=far hi; simp only [upd,this,h5,if_false]; exact hoo i h5 hi),rfl,⟨by simp [upd,hg],_,lc,pc,_,rfl,?_,hl,?_⟩⟩
     ·exact .inr ⟨by simp [addX],3223,.inr rfl,by simp [upd,addX],by simp [upd,addX,codeC,List.take_of_length_le]⟩
     ·exact .inr ⟨by simp [addX],by simp [upd,u1,addX],by simp [upd,u1,addX,useR]⟩
    ·rw [hfx]
     simp only [go_sem,↓reduceIte,H,fC,codeC,List.length_map,c3,hli,hx,s1,s2,s3,buildA]
     refine draw_det Tt_ok mixed [3017] [([10],[],[],false),([180],[],[],false),([10],[0],[],false),([182],[0],[],false),([10],[0],[],false),([184],[0],[],false),([17],[],[],false),([186,181],[],[0],false),([17],[],[],false),([187,183],[],[0],false),([17],[],[],false),([188,185],[],[],true)] 1 (by decide +kernel) rfl (by decide) ?_
     simp only [go_sem,↓reduceIte]
     iterate 7 (apply det_pure; · (intro fa ga oa K' hK; simp only [go_sem,↓reduceIte,H,fC,codeC,List.length_map,c3,hli,hx,s1,s2,s3] at hK ⊢; exact hK))
     (apply det_store; (focus simp); (focus (intro fa ga oa K' hK; simp only [go_sem,↓reduceIte,H,fC,codeC,List.length_map,c3,hli,hx,s1,s2,s3] at hK ⊢; exact hK)))
     (apply det_pure; · (intro fa ga oa K' hK; simp only [go_sem,↓reduceIte,H,fC,codeC,List.length_map,c3,hli,hx,s1,s2,s3] at hK ⊢; exact hK))
     (apply det_store; (focus simp); (focus (intro fa ga oa K' hK; simp only [go_sem,↓reduceIte,H,fC,codeC,List.length_map,c3,hli,hx,s1,s2,s3] at hK ⊢; exact hK)))
     (apply det_pure; · (intro fa ga oa K' hK; simp only [go_sem,↓reduceIte,H,fC,codeC,List.length_map,c3,hli,hx,s1,s2,s3] at hK ⊢; exact hK))
     apply det_last
     intro K' hK'
     simp only [go_sem,↓reduceIte,H,fC,codeC,List.length_map,c3,hli,hx,s1,s2,s3]
     refine hK' _ ?_
     clear hK' K'
     simp only [go_sem,↓reduceIte,H,fC,codeC,List.length_map,c3,hli,hx,s1,s2,s3]
     refine hook_pure rfl (by simp only [go_sem,↓reduceIte]; exact Enc_X _ _ _ _) (by simp only [go_sem,↓reduceIte]; rfl) ?_
     rintro _ ⟨e,rfl⟩
     simp only [go_sem,↓reduceIte,H,fC,codeC,List.length_map,c3,hli,hx,s1,s2,s3,elemTy]
     refine ⟨Nat.le_refl _,⟨by decide,by omega⟩,?_⟩
     refine retF_at ⟨fun i hi=>by (have:=far hi; simp only [upd,this,if_false]; exact hgo i hi),fun i h5 hi=>by (have:=far hi; simp only [upd,this,h5,if_false]; exact hoo i h5 hi),rfl,⟨by simp [upd,hg],_,lc,pc,_,rfl,?_,hl,?_⟩⟩
     ·exact .inr ⟨by simp [addX],3223,.inr rfl,by simp [upd,addX],by simp [upd,addX,codeC,List.take_of_length_le]⟩
     ·exact .inr ⟨by simp [addX],by simp [upd,u1,addX],by simp [upd,u1,addX,useR]⟩
   ·simp only [go_sem,↓reduceIte,H,fC,codeC,List.length_map,c3,hli,hx,u3]
    refine draw_det Tt_ok mixed [3156,3157,20] [([0],[0,1],[],false),([0],[0],[],false),([143],[0],[],false),([144],[0],[],false),([145],[0],[],false),([12],[],[],false),([3],[],[],false),([0],[],[],false),([149],[],[],false),([150],[],[],false),([151],[],[],false),([152],[],[],false),([153],[],[],false),([147,148,154],[],[],false),([155],[],[0],false),([146,156],[],[1],false),([142],[],[],false),([158],[],[],false),([159,157],[],[],true)] 3 (by decide +kernel) rfl (by decide) ?_
    simp only [go_sem,↓reduceIte]
    iterate 13 (apply det_pure; · (intro fa ga oa K' hK; simp only [go_sem,↓reduceIte,H,fC,codeC,List.length_map,c3,hli,hx,u3] at hK ⊢; exact hK))
    (apply det_pure; · (intro fa ga oa K' hK; simp only [go_sem,↓reduceIte,buildA] at hK ⊢; exact hK))
    (apply det_new; · (intro fa ga oa K' hK; simp only [go_sem,↓reduceIte,H,fC,codeC,List.length_map,c3,hli,hx,u3,elemTy] at hK ⊢; exact hK))
    (apply det_new; · (intro fa ga oa K' hK; simp only [go_sem,↓reduceIte,H,fC,codeC,List.length_map,c3,hli,hx,u3,elemTy] at hK ⊢; first | exact ⟨⟨by decide,by decide⟩,hK⟩ | exact ⟨⟨by decide,by omega⟩,hK⟩ | exact ⟨Nat.le_of_eq (flatR_len _).symm,⟨by decide,by omega⟩,hK⟩ | exact ⟨Nat.le_refl _,⟨by decide,by omega⟩,hK⟩))
    iterate 2 (apply det_pure; · (intro fa ga oa K' hK; simp only [go_sem,↓reduceIte,H,fC,codeC,List.length_map,c3,hli,hx,u3] at hK ⊢; exact hK))
    apply det_last
    intro K' hK'
    simp only [go_sem,↓reduceIte,H,fC,codeC,List.length_map,c3,hli,hx,u3]
    refine hK' _ ?_
    clear hK' K'
    simp only [go_sem,↓reduceIte,H,fC,codeC,List.length_map,c3,hli,hx,u3]
    refine hook_pure rfl (by simp only [go_sem,↓reduceIte]; exact OpR_A op) (by simp only [go_sem,↓reduceIte]; rfl) ?_
    rintro _ rfl
    rcases hsc with ⟨s1,s2,s3,hfx⟩ | ⟨s1,s2,s3,hfx⟩ | ⟨s1,s2,s3,hfx⟩ | ⟨s1,s2,s3,hfx⟩
    ·rw [hfx]
     simp only [go_sem,↓reduceIte,H,fC,codeC,List.length_map,c3,hli,hx,u3,s1,s2,s3,buildA]
     refine draw_det Tt_ok mixed [3017] [([10],[],[],false),([191],[],[],false),([10],[0],[],false),([193],[0],[],false),([17],[],[],false),([195,192],[],[0],false),([17],[],[],false),([196,194],[],[],true)] 1 (by decide +kernel) rfl (by decide) ?_
     simp only [go_sem,↓reduceIte]
     iterate 5 (apply det_pure; · (intro fa ga oa K' hK; simp only [go_sem,↓reduceIte,H,fC,codeC,List.length_map,c3,hli,hx,u3,s1,s2,s3] at hK ⊢; exact hK))
     (apply det_store; (focus simp); (focus (intro fa ga oa K' hK; simp only [go_sem,↓reduceIte,H,fC,codeC,List.length_map,c3,hli,hx,u3,s1,s2,s3] at hK ⊢; exact hK)))
     (apply det_pure; · (intro fa ga oa K' hK; simp only [go_sem,↓reduceIte,H,fC,codeC,List.length_map,c3,hli,hx,u3,s1,s2,s3] at hK ⊢; exact hK))
     apply det_last
     intro K' hK'
     simp only [go_sem,↓reduceIte,H,fC,codeC,List.length_map,c3,hli,hx,u3,s1,s2,s3]
     refine hK' _ ?_
     clear hK' K'
     simp only [go_sem,↓reduceIte,H,fC,codeC,List.length_map,c3,hli,hx,u3,s1,s2,s3]
     refine hook_pure rfl (by simp only [go_sem,↓reduceIte]; exact Enc_X _ _ _ _) (by simp only [go_sem,↓reduceIte]; rfl) ?_
     rintro _ ⟨e,rfl⟩
     simp only [go_sem,↓reduceIte,H,fC,codeC,List.length_map,c3,hli,hx,u3,s1,s2,s3,elemTy]
     refine ⟨Nat.le_refl _,⟨by decide,by omega⟩,?_⟩
     refine retF_at ⟨fun i hi=>by (have:=far hi; simp only [upd,this,if_false]; exact hgo i hi),fun i h5 hi=>by (have:=far hi; simp only [upd,this,h5,if_false]; exact hoo i h5 hi),rfl,⟨by simp [upd,hg],_,lc,pc,_,rfl,?_,hl,?_⟩⟩
     ·exact .inr ⟨by simp [addX],3223,.inr rfl,by simp [upd,addX],by simp [upd,addX,codeC,List.take_of_length_le]⟩
     ·exact .inr ⟨by simp [addX],by simp [upd,addX],by simp [upd,addX,flatR_take,useR]⟩
    ·rw [hfx]
     simp only [go_sem,↓reduceIte,H,fC,codeC,List.length_map,c3,hli,hx,u3,s1,s2,s3,buildA]
     refine draw_det Tt_ok mixed [3017] [([10],[],[],false),([199],[],[],false),([10],[0],[],false),([201],[0],[],false),([17],[],[],false),([203,200],[],[0],false),([17],[],[],false),([204,202],[],[],true)] 1 (by decide +kernel) rfl (by decide) ?_
     simp only [go_sem,↓reduceIte]
     iterate 5 (apply det_pure; · (intro fa ga oa K' hK; simp only [go_sem,↓reduceIte,H,fC,codeC,List.length_map,c3,hli,hx,u3,s1,s2,s3] at hK ⊢; exact hK))
     (apply det_store; (focus simp); (focus (intro fa ga oa K' hK; simp only [go_sem,↓reduceIte,H,fC,codeC,List.length_map,c3,hli,hx,u3,s1,s2,s3] at hK ⊢; exact hK)))
     (apply det_pure; · (intro fa ga oa K' hK; simp only [go_sem,↓reduceIte,H,fC,codeC,List.length_map,c3,hli,hx,u3,s1,s2,s3] at hK ⊢; exact hK))
     apply det_last
     intro K' hK'
     simp only [go_sem,↓reduceIte,H,fC,codeC,List.length_map,c3,hli,hx,u3,s1,s2,s3]
     refine hK' _ ?_
     clear hK' K'
     simp only [go_sem,↓reduceIte,H,fC,codeC,List.length_map,c3,hli,hx,u3,s1,s2,s3]
     refine hook_pure rfl (by simp only [go_sem,↓reduceIte]; exact Enc_X _ _ _ _) (by simp only [go_sem,↓reduceIte]; rfl) ?_
     rintro _ ⟨e,rfl⟩
     simp only [go_sem,↓reduceIte,H,fC,codeC,List.length_map,c3,hli,hx,u3,s1,s2,s3,elemTy]
     refine ⟨Nat.le_refl _,⟨by decide,by omega⟩,?_⟩
     refine retF_at ⟨fun i hi=>by (have:=far hi; simp only [upd,this,if_false]; exact hgo i hi),fun i h5 hi=>by (have:=far hi; simp only [upd,this,h5,if_false]; exact hoo i h5 hi),rfl,⟨by simp [upd,hg],_,lc,pc,_,rfl,?_,hl,?_⟩⟩
     ·exact .inr ⟨by simp [addX],3223,.inr rfl,by simp [upd,addX],by simp [upd,addX,codeC,List.take_of_length_le]⟩
     ·exact .inr ⟨by simp [addX],by simp [upd,addX],by simp [upd,addX,flatR_take,useR]⟩
    ·rw [hfx]
     simp only [go_sem,↓reduceIte,H,fC,codeC,List.length_map,c3,hli,hx,u3,s1,s2,s3,buildA]
     refine hook_pure rfl (by simp only [go_sem,↓reduceIte]; exact Enc_X _ _ _ _) (by simp only [go_sem,↓reduceIte]; rfl) ?_
     rintro _ ⟨e,rfl⟩
     simp only [go_sem,↓reduceIte,H,fC,codeC,List.length_map,c3,hli,hx,u3,s1,s2,s3,elemTy]
     refine ⟨Nat.le_refl _,⟨by decide,by omega⟩,?_⟩
     refine retF_at ⟨fun i hi=>by (have:=far hi; simp only [upd,this,if_false]; exact hgo i hi),fun i h5 hi=>by (have:=far hi; simp only [upd,this,h5,if_false]; exact hoo i h5 hi),rfl,⟨by simp [upd,hg],_,lc,pc,_,rfl,?_,hl,?_⟩⟩
     ·exact .inr ⟨by simp [addX],3223,.inr rfl,by simp [upd,addX],by simp [upd,addX,codeC,List.take_of_length_le]⟩
     ·exact .inr ⟨by simp [addX],by simp [upd,addX],by simp [upd,addX,flatR_take,useR]⟩
    ·rw [hfx]
     simp only [go_sem,↓reduceIte,H,fC,codeC,List.length_map,c3,hli,hx,u3,s1,s2,s3,buildA]
     refine draw_det Tt_ok mixed [3017] [([10],[],[],false),([180],[],[],false),([10],[0],[],false),([182],[0],[],false),([10],[0],[],false),([184],[0],[],false),([17],[],[],false),([186,181],[],[0],false),([17],[],[],false),([187,183],[],[0],false),([17],[],[],false),([188,185],[],[],true)] 1 (by decide +kernel) rfl (by decide) ?_
     simp only [go_sem,↓reduceIte]
     iterate 7 (apply det_pure; · (intro fa ga oa K' hK; simp only [go_sem,↓reduceIte,H,fC,codeC,List.length_map,c3,hli,hx,u3,s1,s2,s3] at hK ⊢; exact hK))
     (apply det_store; (focus simp); (focus (intro fa ga oa K' hK; simp only [go_sem,↓reduceIte,H,fC,codeC,List.length_map,c3,hli,hx,u3,s1,s2,s3] at hK ⊢; exact hK)))
     (apply det_pure; · (intro fa ga oa K' hK; simp only [go_sem,↓reduceIte,H,fC,codeC,List.length_map,c3,hli,hx,u3,s1,s2,s3] at hK ⊢; exact hK))
     (apply det_store; (focus simp); (focus (intro fa ga oa K' hK; simp only [go_sem,↓reduceIte,H,fC,codeC,List.length_map,c3,hli,hx,u3,s1,s2,s3] at hK ⊢; exact hK)))
     (apply det_pure; · (intro fa ga oa K' hK; simp only [go_sem,↓reduceIte,H,fC,codeC,List.length_map,c3,hli,hx,u3,s1,s2,s3] at hK ⊢; exact hK))
     apply det_last
     intro K' hK'
     simp only [go_sem,↓reduceIte,H,fC,codeC,List.length_map,c3,hli,hx,u3,s1,s2,s3]
     refine hK' _ ?_
     clear hK' K'
     simp only [go_sem,↓reduceIte,H,fC,codeC,List.length_map,c3,hli,hx,u3,s1,s2,s3]
     refine hook_pure rfl (by simp only [go_sem,↓reduceIte]; exact Enc_X _ _ _ _) (by simp only [go_sem,↓reduceIte]; rfl) ?_
     rintro _ ⟨e,rfl⟩
     simp only [go_sem,↓reduceIte,H,fC,codeC,List.length_map,c3,hli,hx,u3,s1,s2,s3,elemTy]
     refine ⟨Nat.le_refl _,⟨by decide,by omega⟩,?_⟩
     refine retF_at ⟨fun i hi=>by (have:=far hi; simp only [upd,this,if_false]; exact hgo i hi),fun i h5 hi=>by (have:=far hi; simp only [upd,this,h5,if_false]; exact hoo i h5 hi),rfl,⟨by simp [upd,hg],_,lc,pc,_,rfl,?_,hl,?_⟩⟩
     ·exact .inr ⟨by simp [addX],3223,.inr rfl,by simp [upd,addX],by simp [upd,addX,codeC,List.take_of_length_le]⟩
     ·exact .inr ⟨by simp [addX],by simp [upd,addX],by simp [upd,addX,flatR_take,useR]⟩
 ·-- .word
  have hwa:IntKind.u32.wrap (a:Int) = (a:Int):=by rw [IntKind.wrap_u32]; omega
  rcases hc with ⟨c1,rfl⟩ | ⟨c1,ci,rfl | rfl,rfl,c3⟩
  ·have hlen:¬ st.code.length = 16384:=by rw [c1]; decide
   rw [endA_word e6 hlen] at hP
   subst hP
   by_cases hx:xl = []
   ·rw [show useX st line xl = st from if_pos hx]
    subst hx
    simp only [go_sem,↓reduceIte,H,fC,hwa,codeC,List.length_map]
    refine draw_det Tt_ok mixed [3171,3172,20] [([0],[0,1],[],false),([0],[0],[],false),([163],[0],[],false),([164],[0],[],false),([165],[0],[],false),([166],[0],[],false),([10],[],[],false),([168],[],[],false),([169],[],[],false),([170],[],[0],false),([167,171],[],[1],false),([162],[],[],false),([173],[],[],false),([174],[],[],false),([175,172],[],[],true)] 3 (by decide +kernel) rfl (by decide) ?_
    simp only [go_sem,↓reduceIte]
    iterate 9 (apply det_pure; · (intro fa ga oa K' hK; simp only [go_sem,↓reduceIte,H,fC,hwa,codeC,List.length_map] at hK ⊢; exact hK))
    (apply det_new; · (intro fa ga oa K' hK; simp only [go_sem,↓reduceIte,H,fC,hwa,codeC,List.length_map,elemTy] at hK ⊢; exact hK))
    (apply det_new; · (intro fa ga oa K' hK; simp only [go_sem,↓reduceIte,H,fC,hwa,codeC,List.length_map,elemTy] at hK ⊢; first | exact ⟨⟨by decide,by decide⟩,hK⟩ | exact ⟨⟨by decide,by omega⟩,hK⟩ | exact ⟨Nat.le_of_eq (flatR_len _).symm,⟨by decide,by omega⟩,hK⟩ | exact ⟨Nat.le_refl _,⟨by decide,by omega⟩,hK⟩))
    iterate 3 (apply det_pure; · (intro fa ga oa K' hK; simp only [go_sem,↓reduceIte,H,fC,hwa,codeC,List.length_map] at hK ⊢; exact hK))
    apply det_last
    intro K' hK'
    simp only [go_sem,↓reduceIte,H,fC,hwa,codeC,List.length_map]
    refine hK' _ ?_
    clear hK' K'
    simp only [go_sem,↓reduceIte,H,fC,hwa,codeC,List.length_map]
    refine retF_at ⟨fun i hi=>by (have:=far hi; simp only [upd,this,if_false]; exact hgo i hi),fun i h5 hi=>by (have:=far hi; simp only [upd,this,h5,if_false]; exact hoo i h5 hi),rfl,⟨by simp [upd,hg],_,lc,pc,_,rfl,?_,hl,?_⟩⟩
    ·exact .inr ⟨by simp [addX],3172,.inl rfl,by simp [upd,c1,addX],by simp [upd,c1,addX,codeC]⟩
    ·exact hu
   rw [show useX st line xl = { st with uses:=st.uses ++ [(line,st.code.length,xl)] } from if_neg hx]
   rcases hu with ⟨u1,rfl⟩ | ⟨u1,rfl,u3⟩
   ·simp only [go_sem,↓reduceIte,H,fC,hwa,codeC,List.length_map,hx]
    refine draw_det Tt_ok mixed [3156,3157,20] [([0],[0,1],[],false),([0],[0],[],false),([143],[0],[],false),([144],[0],[],false),([145],[0],[],false),([12],[],[],false),([3],[],[],false),([0],[],[],false),([149],[],[],false),([150],[],[],false),([151],[],[],false),([152],[],[],false),([153],[],[],false),([147,148,154],[],[],false),([155],[],[0],false),([146,156],[],[1],false),([142],[],[],false),([158],[],[],false),([159,157],[],[],true)] 3 (by decide +kernel) rfl (by decide) ?_
    simp only [go_sem,↓reduceIte]
    iterate 13 (apply det_pure; · (intro fa ga oa K' hK; simp only [go_sem,↓reduceIte,H,fC,hwa,codeC,List.length_map,hx] at hK ⊢; exact hK))
    (apply det_pure; · (intro fa ga oa K' hK; simp only [go_sem,↓reduceIte,buildA] at hK ⊢; exact hK))
    (apply det_new; · (intro fa ga oa K' hK; simp only [go_sem,↓reduceIte,H,fC,hwa,codeC,List.length_map,hx,elemTy] at hK ⊢; exact hK))
    (apply det_new; · (intro fa ga oa K' hK; simp only [go_sem,↓reduceIte,H,fC,hwa,codeC,List.length_map,hx,elemTy] at hK ⊢; first | exact ⟨⟨by decide,by decide⟩,hK⟩ | exact ⟨⟨by decide,by omega⟩,hK⟩ | exact ⟨Nat.le_of_eq (flatR_len _).symm,⟨by decide,by omega⟩,hK⟩ | exact ⟨Nat.le_refl _,⟨by decide,by omega⟩,hK⟩))
    iterate 2 (apply det_pure; · (intro fa ga oa K' hK; simp only [go_sem,↓reduceIte,H,fC,hwa,codeC,List.length_map,hx] at hK ⊢; exact hK))
    apply det_last
    intro K' hK'
    simp only [go_sem,↓reduceIte,H,fC,hwa,codeC,List.length_map,hx]
    refine hK' _ ?_
    clear hK' K'
    simp only [go_sem,↓reduceIte,H,fC,hwa,codeC,List.length_map,hx]
    refine draw_det Tt_ok mixed [3171,3172,20] [([0],[0,1],[],false),([0],[0],[],false),([163],[0],[],false),([164],[0],[],false),([165],[0],[],false),([166],[0],[],false),([10],[],[],false),([168],[],[],false),([169],[],[],false),([170],[],[0],false),([167,171],[],[1],false),([162],[],[],false),([173],[],[],false),([174],[],[],false),([175,172],[],[],true)] 3 (by decide +kernel) rfl (by decide) ?_
    simp only [go_sem,↓reduceIte]
    iterate 9 (apply det_pure; · (intro fa ga oa K' hK; simp only [go_sem,↓reduceIte,H,fC,hwa,codeC,List.length_map,hx] at hK ⊢; exact hK))
    (apply det_new; · (intro fa ga oa K' hK; simp only [go_sem,↓reduceIte,H,fC,hwa,codeC,List.length_map,hx,elemTy] at hK ⊢; exact hK))
    (apply det_new; · (intro fa ga oa K' hK; simp only [go_sem,↓reduceIte,H,fC,hwa,codeC,List.length_map,hx,elemTy] at hK ⊢; first | exact ⟨⟨by decide,by decide⟩,hK⟩ | exact ⟨⟨by decide,by omega⟩,hK⟩ | exact ⟨Nat.le_of_eq (flatR_len _).symm,⟨by decide,by omega⟩,hK⟩ | exact ⟨Nat.le_refl _,⟨by decide,by omega⟩,hK⟩))
    iterate 3 (apply det_pure; · (intro fa ga oa K' hK; simp only [go_sem,↓reduceIte,H,fC,hwa,codeC,List.length_map,hx] at hK ⊢; exact hK))
    apply det_last
    intro K' hK'
    simp only [go_sem,↓reduceIte,H,fC,hwa,codeC,List.length_map,hx]
    refine hK' _ ?_
    clear hK' K'
    simp only [go_sem,↓reduceIte,H,fC,hwa,codeC,List.length_map,hx]
    refine retF_at ⟨fun i hi=>by (have:=far hi; simp only [upd,this,if_false]; exact hgo i hi),fun i h5 hi=>by (have:=far hi; simp only [upd,this,h5,if_false]; exact hoo i h5 hi),rfl,⟨by simp [upd,hg],_,lc,pc,_,rfl,?_,hl,?_⟩⟩
    ·exact .inr ⟨by simp [addX],3172,.inl rfl,by simp [upd,c1,addX],by simp [upd,c1,addX,codeC]⟩
    ·exact .inr ⟨by simp [addX],by simp [upd,u1,addX],by simp [upd,u1,addX,useR,c1]⟩
   ·simp only [go_sem,↓reduceIte,H,fC,hwa,codeC,List.length_map,hx,u3]
    refine draw_det Tt_ok mixed [3156,3157,20] [([0],[0,1],[],false),([0],[0],[],false),([143],[0],[],false),([144],[0],[],false),([145],[0],[],false),([12],[],[],false),([3],[],[],false),([0],[],[],false),([149],[],[],false),([150],[],[],false),([151],[],[],false),([152],[],[],false),([153],[],[],false),([147,148,154],[],[],false),([155],[],[0],false),([146,156],[],[1],false),([142],[],[],false),([158],[],[],false),([159,157],[],[],true)] 3 (by decide +kernel) rfl (by decide) ?_
    simp only [go_sem,↓reduceIte]
    iterate 13 (apply det_pure; · (intro fa ga oa K' hK; simp only [go_sem,↓reduceIte,H,fC,hwa,codeC,List.length_map,hx,u3] at hK ⊢; exact hK))
    (apply det_pure; · (intro fa ga oa K' hK; simp only [go_sem,↓reduceIte,buildA] at hK ⊢; exact hK))
    (apply det_new; · (intro fa ga oa K' hK; simp only [go_sem,↓reduceIte,H,fC,hwa,codeC,List.length_map,hx,u3,elemTy] at hK ⊢; exact hK))
    (apply det_new; · (intro fa ga oa K' hK; simp only [go_sem,↓reduceIte,H,fC,hwa,codeC,List.length_map,hx,u3,elemTy] at hK ⊢; first | exact ⟨⟨by decide,by decide⟩,hK⟩ | exact ⟨⟨by decide,by omega⟩,hK⟩ | exact ⟨Nat.le_of_eq (flatR_len _).symm,⟨by decide,by omega⟩,hK⟩ | exact ⟨Nat.le_refl _,⟨by decide,by omega⟩,hK⟩))
    iterate 2 (apply det_pure; · (intro fa ga oa K' hK; simp only [go_sem,↓reduceIte,H,fC,hwa,codeC,List.length_map,hx,u3] at hK ⊢; exact hK))
    apply det_last
    intro K' hK'
    simp only [go_sem,↓reduceIte,H,fC,hwa,codeC,List.length_map,hx,u3]
    refine hK' _ ?_
    clear hK' K'
    simp only [go_sem,↓reduceIte,H,fC,hwa,codeC,List.length_map,hx,u3]
    refine draw_det Tt_ok mixed [3171,3172,20] [([0],[0,1],[],false),([0],[0],[],false),([163],[0],[],false),([164],[0],[],false),([165],[0],[],false),([166],[0],[],false),([10],[],[],false),([168],[],[],false),([169],[],[],false),([170],[],[0],false),([167,171],[],[1],false),([162],[],[],false),([173],[],[],false),([174],[],[],false),([175,172],[],[],true)] 3 (by decide +kernel) rfl (by decide) ?_
    simp only [go_sem,↓reduceIte]
    iterate 9 (apply det_pure; · (intro fa ga oa K' hK; simp only [go_sem,↓reduceIte,H,fC,hwa,codeC,List.length_map,hx,u3] at hK ⊢; exact hK))
    (apply det_new; · (intro fa ga oa K' hK; simp only [go_sem,↓reduceIte,H,fC,hwa,codeC,List.length_map,hx,u3,elemTy] at hK ⊢; exact hK))
    (apply det_new; · (intro fa ga oa K' hK; simp only [go_sem,↓reduceIte,H,fC,hwa,codeC,List.length_map,hx,u3,elemTy] at hK ⊢; first | exact ⟨⟨by decide,by decide⟩,hK⟩ | exact ⟨⟨by decide,by omega⟩,hK⟩ | exact ⟨Nat.le_of_eq (flatR_len _).symm,⟨by decide,by omega⟩,hK⟩ | exact ⟨Nat.le_refl _,⟨by decide,by omega⟩,hK⟩))
    iterate 3 (apply det_pure; · (intro fa ga oa K' hK; simp only [go_sem,↓reduceIte,H,fC,hwa,codeC,List.length_map,hx,u3] at hK ⊢; exact hK))
    apply det_last
    intro K' hK'
    simp only [go_sem,↓reduceIte,H,fC,hwa,codeC,List.length_map,hx,u3]
    refine hK' _ ?_
    clear hK' K'
    simp only [go_sem,↓reduceIte,H,fC,hwa,codeC,List.length_map,hx,u3]
    refine retF_at ⟨fun i hi=>by (have:=far hi; simp only [upd,this,if_false]; exact hgo i hi),fun i h5 hi=>by (have:=far hi; simp only [upd,this,h5,if_false]; exact hoo i h5 hi),rfl,⟨by simp [upd,hg],_,lc,pc,_,rfl,?_,hl,?_⟩⟩
    ·exact .inr ⟨by simp [addX],3172,.inl rfl,by simp [upd,c1,addX],by simp [upd,c1,addX,codeC]⟩
    ·exact .inr ⟨by simp [addX],by simp [upd,addX],by simp [upd,addX,flatR_take,useR,c1]⟩
  ·by_cases hlen:st.code.length = 16384
   ·rw [endA_full e4 hlen] at hP
    subst hP
    have hli:((st.code.length:Nat):Int) = 16384:=by omega
    simp only [go_sem,↓reduceIte,H,fC,hwa,codeC,List.length_map,c3,hli]
    exact retF_at ⟨hgo,hoo,rfl⟩
   have hli:¬ ((st.code.length:Nat):Int) = 16384:=by omega
   rw [endA_word e6 hlen] at hP
   subst hP
   by_cases hx:xl = []
   ·rw [show useX st line xl = st from if_pos hx]
    subst hx
    simp only [go_sem,↓reduceIte,H,fC,hwa,codeC,List.length_map,c3,hli]
    refine draw_det Tt_ok mixed [3171,3172,20] [([0],[0,1],[],false),([0],[0],[],false),([163],[0],[],false),([164],[0],[],false),([165],[0],[],false),([166],[0],[],false),([10],[],[],false),([168],[],[],false),([169],[],[],false),([170],[],[0],false),([167,171],[],[1],false),([162],[],[],false),([173],[],[],false),([174],[],[],false),([175,172],[],[],true)] 3 (by decide +kernel) rfl (by decide) ?_
    simp only [go_sem,↓reduceIte]
    iterate 9 (apply det_pure; · (intro fa ga oa K' hK; simp only [go_sem,↓reduceIte,H,fC,hwa,codeC,List.length_map,c3,hli] at hK ⊢; exact hK))
    (apply det_new; · (intro fa ga oa K' hK; simp only [go_sem,↓reduceIte,H,fC,hwa,codeC,List.length_map,c3,hli,elemTy] at hK ⊢; exact hK))
    (apply det_new; · (intro fa ga oa K' hK; simp only [go_sem,↓reduceIte,H,fC,hwa,codeC,List.length_map,c3,hli,elemTy] at hK ⊢; first | exact ⟨⟨by decide,by decide⟩,hK⟩ | exact ⟨⟨by decide,by omega⟩,hK⟩ | exact ⟨Nat.le_of_eq (flatR_len _).symm,⟨by decide,by omega⟩,hK⟩ | exact ⟨Nat.le_refl _,⟨by decide,by omega⟩,hK⟩))
    iterate 3 (apply det_pure; · (intro fa ga oa K' hK; simp only [go_sem,↓reduceIte,H,fC,hwa,codeC,List.length_map,c3,hli] at hK ⊢; exact hK))
    apply det_last
    intro K' hK'
    simp only [go_sem,↓reduceIte,H,fC,hwa,codeC,List.length_map,c3,hli]
    refine hK' _ ?_
    clear hK' K'
    simp only [go_sem,↓reduceIte,H,fC,hwa,codeC,List.length_map,c3,hli]
    refine retF_at ⟨fun i hi=>by (have:=far hi; simp only [upd,this,if_false]; exact hgo i hi),fun i h5 hi=>by (have:=far hi; simp only [upd,this,h5,if_false]; exact hoo i h5 hi),rfl,⟨by simp [upd,hg],_,lc,pc,_,rfl,?_,hl,?_⟩⟩
    ·exact .inr ⟨by simp [addX],3172,.inl rfl,by simp [upd,addX],by simp [upd,addX,codeC,List.take_of_length_le]⟩
    ·exact hu
   rw [show useX st line xl = { st with uses:=st.uses ++ [(line,st.code.length,xl)] } from if_neg hx]
   rcases hu with ⟨u1,rfl⟩ | ⟨u1,rfl,u3⟩
   ·simp only [go_sem,↓reduceIte,H,fC,hwa,codeC,List.length_map,c3,hli,hx]
    refine draw_det Tt_ok mixed [3156,3157,20] [([0],[0,1],[],false),([0],[0],[],false),([143],[0],[],false),([144],[0],[],false),([145],[0],[],false),([12],[],[],false),([3],[],[],false),([0],[],[],false),([149],[],[],false),([150],[],[],false),([151],[],[],false),([152],[],[],false),([153],[],[],false),([147,148,154],[],[],false),([155],[],[0],false),([146,156],[],[1],false),([142],[],[],false),([158],[],[],false),([159,157],[],[],true)] 3 (by decide +kernel) rfl (by decide) ?_
    simp only [go_sem,↓reduceIte]
    iterate 13 (apply det_pure; · (intro fa ga oa K' hK; simp only [go_sem,↓reduceIte,H,fC,hwa,codeC,List.length_map,c3,hli,hx] at hK ⊢; exact hK))
    (apply det_pure; · (intro fa ga oa K' hK; simp only [go_sem,↓reduceIte,buildA] at hK ⊢; exact hK))
    (apply det_new; · (intro fa ga oa K' hK; simp only [go_sem,↓reduceIte,H,fC,hwa,codeC,List.length_map,c3,hli,hx,elemTy] at hK ⊢; exact hK))
    (apply det_new; · (intro fa ga oa K' hK; simp only [go_sem,↓reduceIte,H,fC,hwa,codeC,List.length_map,c3,hli,hx,elemTy] at hK ⊢; first | exact ⟨⟨by decide,by decide⟩,hK⟩ | exact ⟨⟨by decide,by omega⟩,hK⟩ | exact ⟨Nat.le_of_eq (flatR_len _).symm,⟨by decide,by omega⟩,hK⟩ | exact ⟨Nat.le_refl _,⟨by decide,by omega⟩,hK⟩))
    iterate 2 (apply det_pure; · (intro fa ga oa K' hK; simp only [go_sem,↓reduceIte,H,fC,hwa,codeC,List.length_map,c3,hli,hx] at hK ⊢; exact hK))
    apply det_last
    intro K' hK'
    simp only [go_sem,↓reduceIte,H,fC,hwa,codeC,List.length_map,c3,hli,hx]
    refine hK' _ ?_
    clear hK' K'
    simp only [go_sem,↓reduceIte,H,fC,hwa,codeC,List.length_map,c3,hli,hx]
    refine draw_det Tt_ok mixed [3171,3172,20] [([0],[0,1],[],false),([0],[0],[],false),([163],[0],[],false),([164],[0],[],false),([165],[0],[],false),([166],[0],[],false),([10],[],[],false),([168],[],[],false),([169],[],[],false),([170],[],[0],false),([167,171],[],[1],false),([162],[],[],false),([173],[],[],false),([174],[],[],false),([175,172],[],[],true)] 3 (by decide +kernel) rfl (by decide) ?_
    simp only [go_sem,↓reduceIte]
    iterate 9 (apply det_pure; · (intro fa ga oa K' hK; simp only [go_sem,↓reduceIte,H,fC,hwa,codeC,List.length_map,c3,hli,hx] at hK ⊢; exact hK))
    (apply det_new; · (intro fa ga oa K' hK; simp only [go_sem,↓reduceIte,H,fC,hwa,codeC,List.length_map,c3,hli,hx,elemTy] at hK ⊢; exact hK))
    (apply det_new; · (intro fa ga oa K' hK; simp only [go_sem,↓reduceIte,H,fC,hwa,codeC,List.length_map,c3,hli,hx,elemTy] at hK ⊢; first | exact ⟨⟨by decide,by decide⟩,hK⟩ | exact ⟨⟨by decide,by omega⟩,hK⟩ | exact ⟨Nat.le_of_eq (flatR_len _).symm,⟨by decide,by omega⟩,hK⟩ | exact ⟨Nat.le_refl _,⟨by decide,by omega⟩,hK⟩))
    iterate 3 (apply det_pure; · (intro fa ga oa K' hK; simp only [go_sem,↓reduceIte,H,fC,hwa,codeC,List.length_map,c3,hli,hx] at hK ⊢; exact hK))
    apply det_last
    intro K' hK'
    simp only [go_sem,↓reduceIte,H,fC,hwa,codeC,List.length_map,c3,hli,hx]
    refine hK' _ ?_
    clear hK' K'
    simp only [go_sem,↓reduceIte,H,fC,hwa,codeC,List.length_map,c3,hli,hx]
    refine retF_at ⟨fun i hi=>by (have:=far hi; simp only [upd,this,if_false]; exact hgo i hi),fun i h5 hi=>by (have:=far hi; simp only [upd,this,h5,if_false]; exact hoo i h5 hi),rfl,⟨by simp [upd,hg],_,lc,pc,_,rfl,?_,hl,?_⟩⟩
    ·exact .inr ⟨by simp [addX],3172,.inl rfl,by simp [upd,addX],by simp [upd,addX,codeC,List.take_of_length_le]⟩
    ·exact .inr ⟨by simp [addX],by simp [upd,u1,addX],by simp [upd,u1,addX,useR]⟩
   ·simp only [go_sem,↓reduceIte,H,fC,hwa,codeC,List.length_map,c3,hli,hx,u3]
    refine draw_det Tt_ok mixed [3156,3157,20] [([0],[0,1],[],false),([0],[0],[],false),([143],[0],[],false),([144],[0],[],false),([145],[0],[],false),([12],[],[],false),([3],[],[],false),([0],[],[],false),([149],[],[],false),([150],[],[],false),([151],[],[],false),([152],[],[],false),([153],[],[],false),([147,148,154],[],[],false),([155],[],[0],false),([146,156],[],[1],false),([142],[],[],false),([158],[],[],false),([159,157],[],[],true)] 3 (by decide +kernel) rfl (by decide) ?_
    simp only [go_sem,↓reduceIte]
    iterate 13 (apply det_pure; · (intro fa ga oa K' hK; simp only [go_sem,↓reduceIte,H,fC,hwa,codeC,List.length_map,c3,hli,hx,u3] at hK ⊢; exact hK))
    (apply det_pure; · (intro fa ga oa K' hK; simp only [go_sem,↓reduceIte,buildA] at hK ⊢; exact hK))
    (apply det_new; · (intro fa ga oa K' hK; simp only [go_sem,↓reduceIte,H,fC,hwa,codeC,List.length_map,c3,hli,hx,u3,elemTy] at hK ⊢; exact hK))
    (apply det_new; · (intro fa ga oa K' hK; simp only [go_sem,↓reduceIte,H,fC,hwa,codeC,List.length_map,c3,hli,hx,u3,elemTy] at hK ⊢; first | exact ⟨⟨by decide,by decide⟩,hK⟩ | exact ⟨⟨by decide,by omega⟩,hK⟩ | exact ⟨Nat.le_of_eq (flatR_len _).symm,⟨by decide,by omega⟩,hK⟩ | exact ⟨Nat.le_refl _,⟨by decide,by omega⟩,hK⟩))
    iterate 2 (apply det_pure; · (intro fa ga oa K' hK; simp only [go_sem,↓reduceIte,H,fC,hwa,codeC,List.length_map,c3,hli,hx,u3] at hK ⊢; exact hK))
    apply det_last
    intro K' hK'
    simp only [go_sem,↓reduceIte,H,fC,hwa,codeC,List.length_map,c3,hli,hx,u3]
    refine hK' _ ?_
    clear hK' K'
    simp only [go_sem,↓reduceIte,H,fC,hwa,codeC,List.length_map,c3,hli,hx,u3]
    refine draw_det Tt_ok mixed [3171,3172,20] [([0],[0,1],[],false),([0],[0],[],false),([163],[0],[],false),([164],[0],[],false),([165],[0],[],false),([166],[0],[],false),([10],[],[],false),([168],[],[],false),([169],[],[],false),([170],[],[0],false),([167,171],[],[1],false),([162],[],[],false),([173],[],[],false),([174],[],[],false),([175,172],[],[],true)] 3 (by decide +kernel) rfl (by decide) ?_
    simp only [go_sem,↓reduceIte]
    iterate 9 (apply det_pure; · (intro fa ga oa K' hK; simp only [go_sem,↓reduceIte,H,fC,hwa,codeC,List.length_map,c3,hli,hx,u3] at hK ⊢; exact hK))
    (apply det_new; · (intro fa ga oa K' hK; simp only [go_sem,↓reduceIte,H,fC,hwa,codeC,List.length_map,c3,hli,hx,u3,elemTy] at hK ⊢; exact hK))
    (apply det_new; · (intro fa ga oa K' hK; simp only [go_sem,↓reduceIte,H,fC,hwa,codeC,List.length_map,c3,hli,hx,u3,elemTy] at hK ⊢; first | exact ⟨⟨by decide,by decide⟩,hK⟩ | exact ⟨⟨by decide,by omega⟩,hK⟩ | exact ⟨Nat.le_of_eq (flatR_len _).symm,⟨by decide,by omega⟩,hK⟩ | exact ⟨Nat.le_refl _,⟨by decide,by omega⟩,hK⟩))
    iterate 3 (apply det_pure; · (intro fa ga oa K' hK; simp only [go_sem,↓reduceIte,H,fC,hwa,codeC,List.length_map,c3,hli,hx,u3] at hK ⊢; exact hK))
    apply det_last
    intro K' hK'
    simp only [go_sem,↓reduceIte,H,fC,hwa,codeC,List.length_map,c3,hli,hx,u3]
    refine hK' _ ?_
    clear hK' K'
    simp only [go_sem,↓reduceIte,H,fC,hwa,codeC,List.length_map,c3,hli,hx,u3]
    refine retF_at ⟨fun i hi=>by (have:=far hi; simp only [upd,this,if_false]; exact hgo i hi),fun i h5 hi=>by (have:=far hi; simp only [upd,this,h5,if_false]; exact hoo i h5 hi),rfl,⟨by simp [upd,hg],_,lc,pc,_,rfl,?_,hl,?_⟩⟩
    ·exact .inr ⟨by simp [addX],3172,.inl rfl,by simp [upd,addX],by simp [upd,addX,codeC,List.take_of_length_le]⟩
    ·exact .inr ⟨by simp [addX],by simp [upd,addX],by simp [upd,addX,flatR_take,useR]⟩
  ·by_cases hlen:st.code.length = 16384
   ·rw [endA_full e4 hlen] at hP
    subst hP
    have hli:((st.code.length:Nat):Int) = 16384:=by omega
    simp only [go_sem,↓reduceIte,H,fC,hwa,codeC,List.length_map,c3,hli]
    exact retF_at ⟨hgo,hoo,rfl⟩
   have hli:¬ ((st.code.length:Nat):Int) = 16384:=by omega
   rw [endA_word e6 hlen] at hP
   subst hP
   by_cases hx:xl = []
   ·rw [show useX st line xl = st from if_pos hx]
    subst hx
    simp only [go_sem,↓reduceIte,H,fC,hwa,codeC,List.length_map,c3,hli]
    refine draw_det Tt_ok mixed [3171,3223,20] [([0],[0,1],[],false),([0],[0],[],false),([163],[0],[],false),([164],[0],[],false),([165],[0],[],false),([166],[0],[],false),([10],[],[],false),([168],[],[],false),([169],[],[],false),([170],[],[0],false),([167,171],[],[1],false),([162],[],[],false),([173],[],[],false),([174],[],[],false),([175,172],[],[],true)] 3 (by decide +kernel) rfl (by decide) ?_
    simp only [go_sem,↓reduceIte]
    iterate 9 (apply det_pure; · (intro fa ga oa K' hK; simp only [go_sem,↓reduceIte,H,fC,hwa,codeC,List.length_map,c3,hli] at hK ⊢; exact hK))
    (apply det_new; · (intro fa ga oa K' hK; simp only [go_sem,↓reduceIte,H,fC,hwa,codeC,List.length_map,c3,hli,elemTy] at hK ⊢; exact hK))
    (apply det_new; · (intro fa ga oa K' hK; simp only [go_sem,↓reduceIte,H,fC,hwa,codeC,List.length_map,c3,hli,elemTy] at hK ⊢; first | exact ⟨⟨by decide,by decide⟩,hK⟩ | exact ⟨⟨by decide,by omega⟩,hK⟩ | exact ⟨Nat.le_of_eq (flatR_len _).symm,⟨by decide,by omega⟩,hK⟩ | exact ⟨Nat.le_refl _,⟨by decide,by omega⟩,hK⟩))
    iterate 3 (apply det_pure; · (intro fa ga oa K' hK; simp only [go_sem,↓reduceIte,H,fC,hwa,codeC,List.length_map,c3,hli] at hK ⊢; exact hK))
    apply det_last
    intro K' hK'
    simp only [go_sem,↓reduceIte,H,fC,hwa,codeC,List.length_map,c3,hli]
    refine hK' _ ?_
    clear hK' K'
    simp only [go_sem,↓reduceIte,H,fC,hwa,codeC,List.length_map,c3,hli]
    refine retF_at ⟨fun i hi=>by (have:=far hi; simp only [upd,this,if_false]; exact hgo i hi),fun i h5 hi=>by (have:=far hi; simp only [upd,this,h5,if_false]; exact hoo i h5 hi),rfl,⟨by simp [upd,hg],_,lc,pc,_,rfl,?_,hl,?_⟩⟩
    ·exact .inr ⟨by simp [addX],3223,.inr rfl,by simp [upd,addX],by simp [upd,addX,codeC,List.take_of_length_le]⟩
    ·exact hu
   rw [show useX st line xl = { st with uses:=st.uses ++ [(line,st.code.length,xl)] } from if_neg hx]
   rcases hu with ⟨u1,rfl⟩ | ⟨u1,rfl,u3⟩
   ·simp only [go_sem,↓reduceIte,H,fC,hwa,codeC,List.length_map,c3,hli,hx]
    refine draw_det Tt_ok mixed [3156,3157,20] [([0],[0,1],[],false),([0],[0],[],false),([143],[0],[],false),([144],[0],[],false),([145],[0],[],false),([12],[],[],false),([3],[],[],false),([0],[],[],false),([149],[],[],false),([150],[],[],false),([151],[],[],false),([152],[],[],false),([153],[],[],false),([147,148,154],[],[],false),([155],[],[0],false),([146,156],[],[1],false),([142],[],[],false),([158],[],[],false),([159,157],[],[],true)] 3 (by decide +kernel) rfl (by decide) ?_
    simp only [go_sem,↓reduceIte]
    iterate 13 (apply det_pure; · (intro fa ga oa K' hK; simp only [go_sem,↓reduceIte,H,fC,hwa,codeC,List.length_map,c3,hli,hx] at hK ⊢; exact hK))
    (apply det_pure; · (intro fa ga oa K' hK; simp only [go_sem,↓reduceIte,buildA] at hK ⊢; exact hK))
    (apply det_new; · (intro fa ga oa K' hK; simp only [go_sem,↓reduceIte,H,fC,hwa,codeC,List.length_map,c3,hli,hx,elemTy] at hK ⊢; exact hK))
    (apply det_new; · (intro fa ga oa K' hK; simp only [go_sem,↓reduceIte,H,fC,hwa,codeC,List.length_map,c3,hli,hx,elemTy] at hK ⊢; first | exact ⟨⟨by decide,by decide⟩,hK⟩ | exact ⟨⟨by decide,by omega⟩,hK⟩ | exact ⟨Nat.le_of_eq (flatR_len _).symm,⟨by decide,by omega⟩,hK⟩ | exact ⟨Nat.le_refl _,⟨by decide,by omega⟩,hK⟩))
    iterate 2 (apply det_pure; · (intro fa ga oa K' hK; simp only [go_sem,↓reduceIte,H,fC,hwa,codeC,List.length_map,c3,hli,hx] at hK ⊢; exact hK))
    apply det_last
    intro K' hK'
    simp only [go_sem,↓reduceIte,H,fC,hwa,codeC,List.length_map,c3,hli,hx]
    refine hK' _ ?_
    clear hK' K'
    simp only [go_sem,↓reduceIte,H,fC,hwa,codeC,List.length_map,c3,hli,hx]
    refine draw_det Tt_ok mixed [3171,3223,20] [([0],[0,1],[],false),([0],[0],[],false),([163],[0],[],false),([164],[0],[],false),([165],[0],[],false),([166],[0],[],false),([10],[],[],false),([168],[],[],false),([169],[],[],false),([170],[],[0],false),([167,171],[],[1],false),([162],[],[],false),([173],[],[],false),([174],[],[],false),([175,172],[],[],true)] 3 (by decide +kernel) rfl (by decide) ?_
    simp only [go_sem,↓reduceIte]
    iterate 9 (apply det_pure; · (intro fa ga oa K' hK; simp only [go_sem,↓reduceIte,H,fC,hwa,codeC,List.length_map,c3,hli,hx] at hK ⊢; exact hK))
    (apply det_new; · (intro fa ga oa K' hK; simp only [go_sem,↓reduceIte,H,fC,hwa,codeC,List.length_map,c3,hli,hx,elemTy] at hK ⊢; exact hK))
    (apply det_new; · (intro fa ga oa K' hK; simp only [go_sem,↓reduceIte,H,fC,hwa,codeC,List.length_map,c3,hli,hx,elemTy] at hK ⊢; first | exact ⟨⟨by decide,by decide⟩,hK⟩ | exact ⟨⟨by decide,by omega⟩,hK⟩ | exact ⟨Nat.le_of_eq (flatR_len _).symm,⟨by decide,by omega⟩,hK⟩ | exact ⟨Nat.le_refl _,⟨by decide,by omega⟩,hK⟩))
    iterate 3 (apply det_pure; · (intro fa ga oa K' hK; simp only [go_sem,↓reduceIte,H,fC,hwa,codeC,List.length_map,c3,hli,hx] at hK ⊢; exact hK))
    apply det_last
    intro K' hK'
    simp only [go_sem,↓reduceIte,H,fC,hwa,codeC,List.length_map,c3,hli,hx]
    refine hK' _ ?_
    clear hK' K'
    simp only [go_sem,↓reduceIte,H,fC,hwa,codeC,List.length_map,c3,hli,hx]
    refine retF_at ⟨fun i hi=>by (have:=far hi; simp only [upd,this,if_false]; exact hgo i hi),fun i h5 hi=>by (have:=far hi; simp only [upd,this,h5,if_false]; exact hoo i h5 hi),rfl,⟨by simp [upd,hg],_,lc,pc,_,rfl,?_,hl,?_⟩⟩
    ·exact .inr ⟨by simp [addX],3223,.inr rfl,by simp [upd,addX],by simp [upd,addX,codeC,List.take_of_length_le]⟩
    ·exact .inr ⟨by simp [addX],by simp [upd,u1,addX],by simp [upd,u1,addX,useR]⟩
   ·simp only [go_sem,↓reduceIte,H,fC,hwa,codeC,List.length_map,c3,hli,hx,u3]
    refine draw_det Tt_ok mixed [3156,3157,20] [([0],[0,1],[],false),([0],[0],[],false),([143],[0],[],false),([144],[0],[],false),([145],[0],[],false),([12],[],[],false),([3],[],[],false),([0],[],[],false),([149],[],[],false),([150],[],[],false),([151],[],[],false),([152],[],[],false),([153],[],[],false),([147,148,154],[],[],false),([155],[],[0],false),([146,156],[],[1],false),([142],[],[],false),([158],[],[],false),([159,157],[],[],true)] 3 (by decide +kernel) rfl (by decide) ?_
    simp only [go_sem,↓reduceIte]
    iterate 13 (apply det_pure; · (intro fa ga oa K' hK; simp only [go_sem,↓reduceIte,H,fC,hwa,codeC,List.length_map,c3,hli,hx,u3] at hK ⊢; exact hK))
    (apply det_pure; · (intro fa ga oa K' hK; simp only [go_sem,↓reduceIte,buildA] at hK ⊢; exact hK))
    (apply det_new; · (intro fa ga oa K' hK; simp only [go_sem,↓reduceIte,H,fC,hwa,codeC,List.length_map,c3,hli,hx,u3,elemTy] at hK ⊢; exact hK))
    (apply det_new; · (intro fa ga oa K' hK; simp only [go_sem,↓reduceIte,H,fC,hwa,codeC,List.length_map,c3,hli,hx,u3,elemTy] at hK ⊢; first | exact ⟨⟨by decide,by decide⟩,hK⟩ | exact ⟨⟨by decide,by omega⟩,hK⟩ | exact ⟨Nat.le_of_eq (flatR_len _).symm,⟨by decide,by omega⟩,hK⟩ | exact ⟨Nat.le_refl _,⟨by decide,by omega⟩,hK⟩))
    iterate 2 (apply det_pure; · (intro fa ga oa K' hK; simp only [go_sem,↓reduceIte,H,fC,hwa,codeC,List.length_map,c3,hli,hx,u3] at hK ⊢; exact hK))
    apply det_last
    intro K' hK'
    simp only [go_sem,↓reduceIte,H,fC,hwa,codeC,List.length_map,c3,hli,hx,u3]
    refine hK' _ ?_
    clear hK' K'
    simp only [go_sem,↓reduceIte,H,fC,hwa,codeC,List.length_map,c3,hli,hx,u3]
    refine draw_det Tt_ok mixed [3171,3223,20] [([0],[0,1],[],false),([0],[0],[],false),([163],[0],[],false),([164],[0],[],false),([165],[0],[],false),([166],[0],[],false),([10],[],[],false),([168],[],[],false),([169],[],[],false),([170],[],[0],false),([167,171],[],[1],false),([162],[],[],false),([173],[],[],false),([174],[],[],false),([175,172],[],[],true)] 3 (by decide +kernel) rfl (by decide) ?_
    simp only [go_sem,↓reduceIte]
    iterate 9 (apply det_pure; · (intro fa ga oa K' hK; simp only [go_sem,↓reduceIte,H,fC,hwa,codeC,List.length_map,c3,hli,hx,u3] at hK ⊢; exact hK))
    (apply det_new; · (intro fa ga oa K' hK; simp only [go_sem,↓reduceIte,H,fC,hwa,codeC,List.length_map,c3,hli,hx,u3,elemTy] at hK ⊢; exact hK))
    (apply det_new; · (intro fa ga oa K' hK; simp only [go_sem,↓reduceIte,H,fC,hwa,codeC,List.length_map,c3,hli,hx,u3,elemTy] at hK ⊢; first | exact ⟨⟨by decide,by decide⟩,hK⟩ | exact ⟨⟨by decide,by omega⟩,hK⟩ | exact ⟨Nat.le_of_eq (flatR_len _).symm,⟨by decide,by omega⟩,hK⟩ | exact ⟨Nat.le_refl _,⟨by decide,by omega⟩,hK⟩))
    iterate 3 (apply det_pure; · (intro fa ga oa K' hK; simp only [go_sem,↓reduceIte,H,fC,hwa,codeC,List.length_map,c3,hli,hx,u3] at hK ⊢; exact hK))
    apply det_last
    intro K' hK'
    simp only [go_sem,↓reduceIte,H,fC,hwa,codeC,List.length_map,c3,hli,hx,u3]
    refine hK' _ ?_
    clear hK' K'
    simp only [go_sem,↓reduceIte,H,fC,hwa,codeC,List.length_map,c3,hli,hx,u3]
    refine retF_at ⟨fun i hi=>by (have:=far hi; simp only [upd,this,if_false]; exact hgo i hi),fun i h5 hi=>by (have:=far hi; simp only [upd,this,h5,if_false]; exact hoo i h5 hi),rfl,⟨by simp [upd,hg],_,lc,pc,_,rfl,?_,hl,?_⟩⟩
    ·exact .inr ⟨by simp [addX],3223,.inr rfl,by simp [upd,addX],by simp [upd,addX,codeC,List.take_of_length_le]⟩
    ·exact .inr ⟨by simp [addX],by simp [upd,addX],by simp [upd,addX,flatR_take,useR]⟩
 ·-- .data
  rw [endA_data e4] at hP
  subst hP
  simp only [go_sem,↓reduceIte,H,fC,List.map_cons,List.map_nil]
  refine retF_at ⟨hgo,fun i h5 hi=>by simp only [upd]; rw [if_neg h5,if_neg h5]; exact hoo i h5 hi,rfl,⟨hg,cc,lc,pc,uc,by simp [upd],CodeAt.of hc (fun i hi=>rfl) (fun i hi=>by simp only [upd]; rw [if_neg (by omega),if_neg (by omega)]),hl,hu⟩⟩
end Go.Proofs.YtfcgadnbdcnnlabGreatDoor

namespace Go.Proofs.YtfcgadnbdcnnlabGreatDoor
open Go Go.Am Go.Asm
set_option maxHeartbeats 2000000 in
theorem LinesR_A (s:Str) (hl:s.length ≤ 1000000000):PureR Tryz.prog 19 [sv s] (· = .one (.d (strs (splitC 10 s)))):=by
 refine pure_of_wp Tt_ok mixed Tryz.func19 rfl (by rfl) [2] rfl (by kernel_rfl) (by simp [Tryz.ntmps19]) fun g=>?_
 simp only [go_sem,↓reduceIte]
 refine loop_intro (fun n st=>∃ (t:Str) (done:List Str),t.length = n ∧ st.f 0 = sv t ∧ AllW 3 [20] done st ∧ t.length ≤ s.length ∧ done.length + t.length ≤ s.length ∧ splitC 10 s = done ++ splitC 10 t) s.length ?_ ?_
 ·refine ⟨s,[],rfl,?_⟩
  simp only [go_sem,↓reduceIte]
  first | exact ⟨.inl ⟨by simp [upd],rfl⟩,Nat.le_refl _,Nat.le_of_eq (by simp)⟩ | (simp [AllW,upd]; done)
 rintro n f g ob ⟨t,done,rfl,q0,hW,htl,hdl,hsp⟩
 simp only at q0
 have hul:=upto_len 10 t
 simp only [go_sem,↓reduceIte,q0]
 refine hook_call rfl (by simp only [go_sem,↓reduceIte]; exact find_A t 10 (by omega)) (by simp only [go_sem,↓reduceIte]; rfl) ?_
 rintro _ rfl
 simp only [go_sem,↓reduceIte,q0]
 refine ⟨fun he=>?_,fun he=>?_⟩
 ·have hm:(10:UInt8) ∉ t:=fun h=>by have:=(upto_lt 10 t).2 h; omega
  rw [hsp,splitC_none hm]
  rcases hW with ⟨q3,qL⟩ | ⟨id,hid,q3,qo⟩
  ·simp only at q3
   simp only [go_sem,↓reduceIte,q3,elemTy]
   refine ⟨⟨by decide,by decide⟩,_,⟨_,frz_strs (L:=done ++ [t]) rfl (by simp [upd,qL]) (by simp [qL]),rfl⟩,rfl⟩
  ·simp only [List.mem_singleton] at hid
   subst hid
   simp only at q3 qo
   simp only [go_sem,↓reduceIte,q3,qo,elemTy]
   refine ⟨Nat.le_refl _,⟨by decide,by omega⟩,_,⟨_,frz_strs (L:=done ++ [t]) rfl (by simp [upd,List.take_of_length_le]) (by simp),rfl⟩,rfl⟩
 ·have hm:(10:UInt8) ∈ t:=(upto_lt 10 t).1 (by omega)
  have hlt:=(upto_lt 10 t).2 hm
  have hwp:=wrap_succ (k:=(upto 10 t).length) (by omega)
  have hnext:splitC 10 s = (done ++ [upto 10 t]) ++ splitC 10 (t.drop ((upto 10 t).length + 1)):=by rw [hsp,splitC_upto hm]; simp
  refine ⟨by omega,by omega,?_⟩
  rw [upto_take]
  rcases hW with ⟨q3,qL⟩ | ⟨id,hid,q3,qo⟩
  ·simp only at q3
   simp only [go_sem,↓reduceIte,q3,elemTy,hwp]
   refine ⟨⟨by decide,by decide⟩,?_⟩
   simp only [go_sem,↓reduceIte,q0,hwp]
   refine ⟨by omega,Nat.le_refl _,?_⟩
   refine round_end (t.drop ((upto 10 t).length + 1)).length (by rw [List.length_drop]; omega) ⟨t.drop ((upto 10 t).length + 1),done ++ [upto 10 t],rfl,?_⟩
   simp only [go_sem,↓reduceIte]
   exact ⟨.inr ⟨20,by simp,by simp [upd,qL],by simp [upd,qL]⟩,by rw [List.length_drop]; omega,by simp only [List.length_append,List.length_cons,List.length_nil,List.length_drop]; omega,hnext⟩
  ·simp only [List.mem_singleton] at hid
   subst hid
   simp only at q3 qo
   simp only [go_sem,↓reduceIte,q3,qo,elemTy,hwp]
   refine ⟨Nat.le_refl _,⟨by decide,by omega⟩,?_⟩
   simp only [go_sem,↓reduceIte,q0,hwp]
   refine ⟨by omega,Nat.le_refl _,?_⟩
   refine round_end (t.drop ((upto 10 t).length + 1)).length (by rw [List.length_drop]; omega) ⟨t.drop ((upto 10 t).length + 1),done ++ [upto 10 t],rfl,?_⟩
   simp only [go_sem,↓reduceIte]
   exact ⟨.inr ⟨20,by simp,by simp [upd],by simp [upd,List.take_of_length_le]⟩,by rw [List.length_drop]; omega,by simp only [List.length_append,List.length_cons,List.length_nil,List.length_drop]; omega,hnext⟩
end Go.Proofs.YtfcgadnbdcnnlabGreatDoor

namespace Go.Proofs.YtfcgadnbdcnnlabGreatDoor
open Go Go.Am Go.Asm
theorem addW_labs {st st':Sta} {w:Nat} (h:addW st w = .ok st'):st'.labs = st.labs:=by
 unfold addW at h; split at h <;> cases h; rfl
theorem opA_labs {n:Nat} {st st':Sta} {op:Str} {args:List Str} (h:Asm.opA n st op args = .ok st'):st'.labs = st.labs:=by
 unfold Asm.opA at h
 have hd:∀ b,dirA st b args = .ok st' → st'.labs = st.labs:=by
  intro b h
  unfold dirA at h
  repeat' split at h
  all_goals first | (cases h; rfl) | (cases h; done) | exact addW_labs h
 split at h
 ·cases h; rfl
 ·split at h
  ·exact hd _ h
  ·split at h
   ·exact hd _ h
   ·split at h
    ·cases h
    ·unfold insA at h
     repeat' split at h
     all_goals first | (cases h; done) | exact addW_labs h | exact (addW_labs h:_)
theorem stepA_labs {n:Nat} {st st':Sta} {s:Str} (h:stepA n st s = .ok st'):st'.labs.length ≤ st.labs.length + 1:=by
 unfold stepA at h
 repeat' split at h
 ·cases h
 ·rw [opA_labs h]; omega
 ·cases h
 ·rw [opA_labs h]; simp
end Go.Proofs.YtfcgadnbdcnnlabGreatDoor

namespace Go.Proofs.YtfcgadnbdcnnlabGreatDoor
open Go Go.Am Go.Asm
theorem stepA_put {n:Nat} {st:Sta} {s l op:Str} {args:List Str} (h:lineA s = some (l,op,args)) (hl:l = []):stepA n st s = Asm.opA n st op args:=by
 unfold stepA; rw [h]; exact if_pos hl
theorem stepA_lab {n:Nat} {st:Sta} {s l op:Str} {args:List Str} (h:lineA s = some (l,op,args)) (hl:l ≠ []) (hp:Asm.placeOf st.labs l = none):stepA n st s = Asm.opA n { st with labs:=st.labs ++ [(l,st.code.length)] } op args:=by
 unfold stepA; rw [h]; simp only; rw [if_neg hl,hp]; rfl
theorem stepA_dup {n p:Nat} {st:Sta} {s l op:Str} {args:List Str} (h:lineA s = some (l,op,args)) (hl:l ≠ []) (hp:Asm.placeOf st.labs l = some p):stepA n st s = .err 4:=by
 unfold stepA; rw [h]; simp only; rw [if_neg hl,hp]; rfl
theorem opA_nil {n:Nat} {st:Sta} {args:List Str}:Asm.opA n st [] args = .ok st:=by unfold Asm.opA; exact if_pos rfl
theorem useR_at {us:List (Nat × Nat × Str)} {j:Nat} {u:Nat × Nat × Str} (h:us[j]? = some u):((us.flatMap useR).drop (j * 3)).take 3 = useR u:=by
 induction us generalizing j with
 | nil=>simp at h
 | cons v us ih =>
   cases j with
   | zero=>simp at h; subst h; simp [useR]
   | succ j =>
     have:=ih (j:=j) (by simpa using h)
     rw [List.flatMap_cons,show (j + 1) * 3 = (useR v).length + j * 3 by simp [useR]; omega,← List.drop_drop,List.drop_left]
     exact this
set_option maxHeartbeats 16000000 in
theorem RefRead_A (s:Str) (hs9:s.length ≤ 1000000000):PureR Tryz.prog 8 [sv s] (· = readV (readA s)):=by
 refine pure_of_wpR Tt_ok mixed Tryz.func8 rfl (by rfl) [.cell 2 39,.tmp 3,.tmp 4] rfl (by kernel_rfl) (by simp [Tryz.ntmps8]) fun g=>?_
 obtain ⟨P,hP⟩:∃ P,readA s = P:=⟨_,rfl⟩
 rw [hP]
 by_cases hs:20000 < s.length
 ·have hsi:(20000:Int) < (s.length:Int):=by omega
  rw [show readA s = (([],0),0,2) by unfold readA; rw [if_pos hs]] at hP
  subst hP
  simp only [go_sem,↓reduceIte,hsi,buildA]
  exact ⟨_,frz_read (code:=[]) (d:=0) (n:=0) (e:=2) (.d _),rfl⟩
 have hsi:¬ (20000:Int) < (s.length:Int):=by omega
 have hr1:∀ {n e:Nat},_ → _:=@readA_bad s hs
 have hr2:∀ {st:Sta} {n e:Nat},_ → _ → _:=@readA_use s hs
 have hr3:∀ {st:Sta} {code:List Nat},_ → _ → _:=@readA_good s hs
 have hls:=splitC_len (c:=10) s
 have hlt:=splitC_text (c:=10) s
 simp only [go_sem,↓reduceIte,hsi,buildA]
 refine hook_call rfl (by simp only [go_sem,↓reduceIte]; exact LinesR_A s (by omega)) (by simp only [go_sem,↓reduceIte]; rfl) ?_
 rintro _ rfl
 generalize splitC 10 s = ls at hls hlt hr1 hr2 hr3 ⊢
 simp only [go_sem,↓reduceIte,strs]
 generalize hgr:nxC 60 (g 20) = gr
 generalize hg2:nxC 40 (g 2) = g2
 refine loop_intro (fun nn s=>∃ (k:Nat) (st:Sta),nn + k = ls.length ∧ linesA 0 st0 ls = linesA k st (ls.drop k) ∧ WF st ∧ st.labs.length ≤ k ∧ st.uses.length ≤ k ∧ Made gr st s.gen s.obj ∧ s.f 2 = .one (.ptr 2 g2 0) ∧ s.gen 2 = g2 ∧
  s.obj 2 = some [.d .nsl,.d (.int .i64 0)] ∧ s.f 5 = .one (.ptr 20 gr 0) ∧ s.f 6 = .one (.d (.sl (ls.map fun w=>[D.str w]))) ∧ s.f 7 = iv .i64 k) ls.length ?_ ?_
 ·refine ⟨0,st0,by omega,rfl,WF.zero,Nat.le_refl _,Nat.le_refl _,⟨rfl,_,_,_,_,rfl,.inl ⟨rfl,rfl⟩,.inl ⟨rfl,rfl,rfl⟩,.inl ⟨rfl,rfl⟩⟩,?_⟩
  simp only [go_sem,↓reduceIte,hgr,hg2]
  try trivial
 clear hgr hg2
 rintro nn f g ob ⟨k,st,hk,hli,hwf,hbl,hul,hM,q2,q2g,q2o,q5,q6,q7⟩
 simp only at hM q2 q2g q2o q5 q6 q7
 by_cases hlt':k < ls.length
 ·obtain ⟨x,hx⟩:=getq hlt'
  have hgx:(ls.map fun w=>[D.str w])[k]? = some [D.str x]:=by rw [List.getElem?_map,hx]; rfl
  have hxl:=hlt x (List.mem_of_getElem? hx)
  have hkw:IntKind.i64.wrap ((k:Int) + 1) = ((k + 1:Nat):Int):=wrap_succ (by omega)
  have hkl:(k:Int) < (ls.length:Int):=by omega
  have hk0:(0:Int) ≤ (k:Int):=by omega
  have hdr:ls.drop k = x :: ls.drop (k + 1):=by rw [List.drop_eq_getElem_cons hlt']; congr 1; exact (List.getElem?_eq_some_iff.1 hx).2
  rw [hdr] at hli
  have hbad:∀ e,stepA (k + 1) st x = .err e → readA s = (([],0),k + 1,e):=fun e he=>hr1 (hli.trans (linesA_bad he))
  have hwf':∀ st',stepA (k + 1) st x = .ok st' → WF st':=fun st' he=>hwf.stepA (fun _ _=>operand_reg) he
  have hlenc:=hwf.len
  simp only [go_sem,↓reduceIte,q5,q6,q7,hgx,hkw,hkl,hk0,List.length_map,Int.toNat_natCast]
  refine hook_call rfl (by simp only [go_sem,↓reduceIte]; exact LineR_A x (by omega)) (by simp only [go_sem,↓reduceIte]; rfl) ?_
  rintro _ rfl
  cases hla:lineA x with
  | none =>
    have hst:stepA (k + 1) st x = .err 3:=by unfold stepA; rw [hla]
    rw [hbad 3 hst] at hP
    subst hP
    unfold lineV
    simp only [go_sem,↓reduceIte,q2,q2g,q2o,buildA,hkw,q7]
    exact ⟨_,frz_read (code:=[]) (d:=0) (n:=k + 1) (e:=3) (.d _),rfl⟩
  | some y =>
    obtain ⟨l,op,args⟩:=y
    obtain ⟨hal,hax,hol⟩:=lineA_len hla
    rw [show lineV (some (l,op,args)) = .tup [sv l,sv op,.one (.d (strs args)),iv .i64 0] from rfl]
    by_cases hl0:l = []
    case pos =>
     have hsp:=stepA_put (n:=k + 1) (st:=st) hla hl0
     subst hl0
     by_cases hop:op = []
     case pos =>
      subst hop
      have hst:stepA (k + 1) st x = .ok st:=by rw [hsp]; exact opA_nil
      have hgrow:=stepA_grow hst
      have hgl:=stepA_labs hst
      simp only [go_sem,↓reduceIte,q2,q2g,q2o,q5,q6,q7,hkw,strs]
      refine round_end (nn - 1) (by omega) ⟨k + 1,_,by omega,by rw [hli,linesA_ok hst],hwf' _ hst,by omega,by omega,?_⟩
      simp only [go_sem,↓reduceIte,q2,q2g,q2o,q5,q6,q7,hkw,strs]
      exact hM
     case neg =>
      simp only [go_sem,↓reduceIte,q2,q2g,q2o,q5,q6,q7,hkw,strs,hop]
      refine hook_fun (R:=OutM gr (putA (k + 1) st op args) _ _) rfl (by simp only [go_sem,↓reduceIte,q2,q2g,q2o,q5,q6,q7,hkw,strs,hop]; refine put_A (st:=st) ?_ op args (k + 1) (by omega) (by omega) (fun a ha=>by have:=hax a ha; omega) hlenc (show st.uses.length ≤ 1000000 by omega); exact hM) ?_
      rintro r g' ob' ⟨o1,o2,o3⟩
      rw [put_same (st:=st) hop hlenc,← hsp] at o3
      have o2g:=o1 2 (by decide)
      have o2o:=o2 2 (by decide) (by decide)
      simp [upd,q2g] at o2g
      simp [upd,q2o] at o2o
      cases hst:stepA (k + 1) st x with
      | err e =>
        have hne:¬ ((e:Nat):Int) = 0:=by have:=stepA_ne hst; omega
        rw [hst] at o3
        simp only at o3
        subst o3
        rw [hbad e hst] at hP
        subst hP
        simp only [go_sem,↓reduceIte,q2,q2g,q2o,q5,q6,q7,hkw,strs,hop,hne,o2g,o2o,buildA]
        exact ⟨_,frz_read (code:=[]) (d:=0) (n:=k + 1) (e:=e) (.d _),rfl⟩
      | ok st' =>
        rw [hst] at o3
        obtain ⟨rfl,hM'⟩:=o3
        have hgrow:=stepA_grow hst
        have hgl:=stepA_labs hst
        simp only [go_sem,↓reduceIte,q2,q2g,q2o,q5,q6,q7,hkw,strs,hop]
        refine round_end (nn - 1) (by omega) ⟨k + 1,st',by omega,by rw [hli,linesA_ok hst],hwf' st' hst,by omega,by omega,?_⟩
        simp only [go_sem,↓reduceIte,q2,q2g,q2o,q5,q6,q7,hkw,strs,hop]
        exact ⟨hM',o2g,o2o⟩
    have hM0:=hM
    obtain ⟨hg,cc,lc,pc,uc,h20,hc,hl,hu⟩:=hM
    simp only [go_sem,↓reduceIte,q2,q2g,q2o,q5,q6,q7,hkw,strs,hl0]
    refine hook_lent rfl (by simp only [go_sem,↓reduceIte,q5]; exact place_A hM0 l (by omega)) ?_
    rintro _ rfl
    have hpl:placeI st.labs l = (match Asm.placeOf st.labs l with | some p=>(p:Int) | none=>-1):=rfl
    rw [hpl]
    clear hpl
    cases hpo:Asm.placeOf st.labs l
    case none =>
     have hsp:=stepA_lab (n:=k + 1) hla hl0 hpo
     simp only [go_sem,↓reduceIte,q2,q2g,q2o,q5,q6,q7,hkw,strs,hl0]
     rcases hc with ⟨c1,rfl⟩ | ⟨c1,ci,rfl | rfl,rfl,c3⟩
     ·rcases hl with ⟨l1,rfl,rfl⟩ | ⟨l1,rfl,rfl,l57,l69⟩
      ·refine draw_det Tt_ok mixed [56,57,68,69,20] [([5],[0,1,2,3],[],false),([5],[0,1,2,3,4],[],false),([5],[0,2],[],false),([51],[0,2],[],false),([52],[0,2],[],false),([53],[0,2],[],false),([8],[2],[],false),([55],[2],[0],false),([54,56],[2],[1],false),([5],[0,1,2],[],false),([58],[0,1,2],[],false),([59],[0,1,2],[],false),([60],[0,1,2],[],false),([5],[0,1],[],false),([62],[0,1],[],false),([63],[0,1],[],false),([64],[0,1],[],false),([65],[0,1],[],false),([66],[0,1],[],false),([67],[0,1],[2],false),([61,68],[],[3],false),([49],[],[],false),([70],[],[],false),([71,57],[],[4],false),([50],[],[],false),([72],[],[],false),([73,69],[],[],true)] 5 (by decide +kernel) rfl (by decide) ?_
       simp only [go_sem,↓reduceIte]
       iterate 7 (apply det_pure; · (intro fa ga oa K' hK; simp only [go_sem,↓reduceIte,q2,q2g,q2o,q5,q6,q7,hkw,strs,hl0,hg,h20,List.length_map] at hK ⊢; exact hK))
       (apply det_new; · (intro fa ga oa K' hK; simp only [go_sem,↓reduceIte,q2,q2g,q2o,q5,q6,q7,hkw,strs,hl0,hg,h20,List.length_map,elemTy] at hK ⊢; exact hK))
       (apply det_new; · (intro fa ga oa K' hK; simp only [go_sem,↓reduceIte,q2,q2g,q2o,q5,q6,q7,hkw,strs,hl0,hg,h20,List.length_map,elemTy] at hK ⊢; first | exact ⟨⟨by decide,by decide⟩,hK⟩ | exact ⟨⟨by decide,by omega⟩,hK⟩ | exact ⟨Nat.le_refl _,⟨by decide,by omega⟩,hK⟩))
       iterate 10 (apply det_pure; · (intro fa ga oa K' hK; simp only [go_sem,↓reduceIte,q2,q2g,q2o,q5,q6,q7,hkw,strs,hl0,hg,h20,List.length_map] at hK ⊢; exact hK))
       (apply det_new; · (intro fa ga oa K' hK; simp only [go_sem,↓reduceIte,q2,q2g,q2o,q5,q6,q7,hkw,strs,hl0,hg,h20,List.length_map,elemTy] at hK ⊢; exact hK))
       (apply det_new; · (intro fa ga oa K' hK; simp only [go_sem,↓reduceIte,q2,q2g,q2o,q5,q6,q7,hkw,strs,hl0,hg,h20,List.length_map,elemTy] at hK ⊢; first | exact ⟨⟨by decide,by decide⟩,hK⟩ | exact ⟨⟨by decide,by omega⟩,hK⟩ | exact ⟨Nat.le_refl _,⟨by decide,by omega⟩,hK⟩))
       iterate 2 (apply det_pure; · (intro fa ga oa K' hK; simp only [go_sem,↓reduceIte,q2,q2g,q2o,q5,q6,q7,hkw,strs,hl0,hg,h20,List.length_map] at hK ⊢; exact hK))
       (apply det_store; (focus simp); (focus (intro fa ga oa K' hK; simp only [go_sem,↓reduceIte,q2,q2g,q2o,q5,q6,q7,hkw,strs,hl0,hg,h20,List.length_map] at hK ⊢; exact hK)))
       iterate 2 (apply det_pure; · (intro fa ga oa K' hK; simp only [go_sem,↓reduceIte,q2,q2g,q2o,q5,q6,q7,hkw,strs,hl0,hg,h20,List.length_map] at hK ⊢; exact hK))
       apply det_last
       intro K' hK'
       simp only [go_sem,↓reduceIte,q2,q2g,q2o,q5,q6,q7,hkw,strs,hl0,hg,h20,List.length_map]
       refine hK' _ ?_
       clear hK' K'
       by_cases hop:op = []
       case pos =>
        subst hop
        have hst:stepA (k + 1) st x = .ok { st with labs:=st.labs ++ [(l,st.code.length)] }:=by rw [hsp]; exact opA_nil
        have hgrow:=stepA_grow hst
        have hgl:=stepA_labs hst
        simp only [go_sem,↓reduceIte,q2,q2g,q2o,q5,q6,q7,hkw,strs,hl0,hg,h20,List.length_map]
        refine round_end (nn - 1) (by omega) ⟨k + 1,_,by omega,by rw [hli,linesA_ok hst],hwf' _ hst,by omega,by omega,?_⟩
        simp only [go_sem,↓reduceIte,q2,q2g,q2o,q5,q6,q7,hkw,strs,hl0,hg,h20,List.length_map]
        exact ⟨by simp [upd,hg],_,_,_,uc,rfl,.inl ⟨c1,rfl⟩,.inr ⟨by simp,by simp [upd,l1],by simp [upd,l1],by simp [upd,l1],by simp [upd,l1,c1]⟩,hu⟩
       case neg =>
        simp only [go_sem,↓reduceIte,q2,q2g,q2o,q5,q6,q7,hkw,strs,hl0,hg,h20,List.length_map,hop]
        refine hook_fun (R:=OutM gr (putA (k + 1) { st with labs:=st.labs ++ [(l,st.code.length)] } op args) _ _) rfl (by simp only [go_sem,↓reduceIte,q2,q2g,q2o,q5,q6,q7,hkw,strs,hl0,hg,h20,List.length_map,hop]; refine put_A (st:={ st with labs:=st.labs ++ [(l,st.code.length)] }) ?_ op args (k + 1) (by omega) (by omega) (fun a ha=>by have:=hax a ha; omega) hlenc (show st.uses.length ≤ 1000000 by omega); exact ⟨by simp [upd,hg],_,_,_,uc,rfl,.inl ⟨c1,rfl⟩,.inr ⟨by simp,by simp [upd,l1],by simp [upd,l1],by simp [upd,l1],by simp [upd,l1,c1]⟩,hu⟩) ?_
        rintro r g' ob' ⟨o1,o2,o3⟩
        rw [put_same (st:={ st with labs:=st.labs ++ [(l,st.code.length)] }) hop hlenc,← hsp] at o3
        have o2g:=o1 2 (by decide)
        have o2o:=o2 2 (by decide) (by decide)
        simp [upd,q2g] at o2g
        simp [upd,q2o] at o2o
        cases hst:stepA (k + 1) st x with
        | err e =>
          have hne:¬ ((e:Nat):Int) = 0:=by have:=stepA_ne hst; omega
          rw [hst] at o3
          simp only at o3
          subst o3
          rw [hbad e hst] at hP
          subst hP
          simp only [go_sem,↓reduceIte,q2,q2g,q2o,q5,q6,q7,hkw,strs,hl0,hg,h20,List.length_map,hop,hne,o2g,o2o,buildA]
          exact ⟨_,frz_read (code:=[]) (d:=0) (n:=k + 1) (e:=e) (.d _),rfl⟩
        | ok st' =>
          rw [hst] at o3
          obtain ⟨rfl,hM'⟩:=o3
          have hgrow:=stepA_grow hst
          have hgl:=stepA_labs hst
          simp only [go_sem,↓reduceIte,q2,q2g,q2o,q5,q6,q7,hkw,strs,hl0,hg,h20,List.length_map,hop]
          refine round_end (nn - 1) (by omega) ⟨k + 1,st',by omega,by rw [hli,linesA_ok hst],hwf' st' hst,by omega,by omega,?_⟩
          simp only [go_sem,↓reduceIte,q2,q2g,q2o,q5,q6,q7,hkw,strs,hl0,hg,h20,List.length_map,hop]
          exact ⟨hM',o2g,o2o⟩
      ·refine draw_det Tt_ok mixed [56,57,68,69,20] [([5],[0,1,2,3],[],false),([5],[0,1,2,3,4],[],false),([5],[0,2],[],false),([51],[0,2],[],false),([52],[0,2],[],false),([53],[0,2],[],false),([8],[2],[],false),([55],[2],[0],false),([54,56],[2],[1],false),([5],[0,1,2],[],false),([58],[0,1,2],[],false),([59],[0,1,2],[],false),([60],[0,1,2],[],false),([5],[0,1],[],false),([62],[0,1],[],false),([63],[0,1],[],false),([64],[0,1],[],false),([65],[0,1],[],false),([66],[0,1],[],false),([67],[0,1],[2],false),([61,68],[],[3],false),([49],[],[],false),([70],[],[],false),([71,57],[],[4],false),([50],[],[],false),([72],[],[],false),([73,69],[],[],true)] 5 (by decide +kernel) rfl (by decide) ?_
       simp only [go_sem,↓reduceIte]
       iterate 7 (apply det_pure; · (intro fa ga oa K' hK; simp only [go_sem,↓reduceIte,q2,q2g,q2o,q5,q6,q7,hkw,strs,hl0,hg,h20,l57,l69,List.length_map] at hK ⊢; exact hK))
       (apply det_new; · (intro fa ga oa K' hK; simp only [go_sem,↓reduceIte,q2,q2g,q2o,q5,q6,q7,hkw,strs,hl0,hg,h20,l57,l69,List.length_map,elemTy] at hK ⊢; exact hK))
       (apply det_new; · (intro fa ga oa K' hK; simp only [go_sem,↓reduceIte,q2,q2g,q2o,q5,q6,q7,hkw,strs,hl0,hg,h20,l57,l69,List.length_map,elemTy] at hK ⊢; first | exact ⟨⟨by decide,by decide⟩,hK⟩ | exact ⟨⟨by decide,by omega⟩,hK⟩ | exact ⟨Nat.le_refl _,⟨by decide,by omega⟩,hK⟩))
       iterate 10 (apply det_pure; · (intro fa ga oa K' hK; simp only [go_sem,↓reduceIte,q2,q2g,q2o,q5,q6,q7,hkw,strs,hl0,hg,h20,l57,l69,List.length_map] at hK ⊢; exact hK))
       (apply det_new; · (intro fa ga oa K' hK; simp only [go_sem,↓reduceIte,q2,q2g,q2o,q5,q6,q7,hkw,strs,hl0,hg,h20,l57,l69,List.length_map,elemTy] at hK ⊢; exact hK))
       (apply det_new; · (intro fa ga oa K' hK; simp only [go_sem,↓reduceIte,q2,q2g,q2o,q5,q6,q7,hkw,strs,hl0,hg,h20,l57,l69,List.length_map,elemTy] at hK ⊢; first | exact ⟨⟨by decide,by decide⟩,hK⟩ | exact ⟨⟨by decide,by omega⟩,hK⟩ | exact ⟨Nat.le_refl _,⟨by decide,by omega⟩,hK⟩))
       iterate 2 (apply det_pure; · (intro fa ga oa K' hK; simp only [go_sem,↓reduceIte,q2,q2g,q2o,q5,q6,q7,hkw,strs,hl0,hg,h20,l57,l69,List.length_map] at hK ⊢; exact hK))
       (apply det_store; (focus simp); (focus (intro fa ga oa K' hK; simp only [go_sem,↓reduceIte,q2,q2g,q2o,q5,q6,q7,hkw,strs,hl0,hg,h20,l57,l69,List.length_map] at hK ⊢; exact hK)))
       iterate 2 (apply det_pure; · (intro fa ga oa K' hK; simp only [go_sem,↓reduceIte,q2,q2g,q2o,q5,q6,q7,hkw,strs,hl0,hg,h20,l57,l69,List.length_map] at hK ⊢; exact hK))
       apply det_last
       intro K' hK'
       simp only [go_sem,↓reduceIte,q2,q2g,q2o,q5,q6,q7,hkw,strs,hl0,hg,h20,l57,l69,List.length_map]
       refine hK' _ ?_
       clear hK' K'
       by_cases hop:op = []
       case pos =>
        subst hop
        have hst:stepA (k + 1) st x = .ok { st with labs:=st.labs ++ [(l,st.code.length)] }:=by rw [hsp]; exact opA_nil
        have hgrow:=stepA_grow hst
        have hgl:=stepA_labs hst
        simp only [go_sem,↓reduceIte,q2,q2g,q2o,q5,q6,q7,hkw,strs,hl0,hg,h20,l57,l69,List.length_map]
        refine round_end (nn - 1) (by omega) ⟨k + 1,_,by omega,by rw [hli,linesA_ok hst],hwf' _ hst,by omega,by omega,?_⟩
        simp only [go_sem,↓reduceIte,q2,q2g,q2o,q5,q6,q7,hkw,strs,hl0,hg,h20,l57,l69,List.length_map]
        exact ⟨by simp [upd,hg],_,_,_,uc,rfl,.inl ⟨c1,rfl⟩,.inr ⟨by simp,by simp [upd],by simp [upd],by simp [upd,List.take_of_length_le],by simp [upd,List.take_of_length_le,c1]⟩,hu⟩
       case neg =>
        simp only [go_sem,↓reduceIte,q2,q2g,q2o,q5,q6,q7,hkw,strs,hl0,hg,h20,l57,l69,List.length_map,hop]
        refine hook_fun (R:=OutM gr (putA (k + 1) { st with labs:=st.labs ++ [(l,st.code.length)] } op args) _ _) rfl (by simp only [go_sem,↓reduceIte,q2,q2g,q2o,q5,q6,q7,hkw,strs,hl0,hg,h20,l57,l69,List.length_map,hop]; refine put_A (st:={ st with labs:=st.labs ++ [(l,st.code.length)] }) ?_ op args (k + 1) (by omega) (by omega) (fun a ha=>by have:=hax a ha; omega) hlenc (show st.uses.length ≤ 1000000 by omega); exact ⟨by simp [upd,hg],_,_,_,uc,rfl,.inl ⟨c1,rfl⟩,.inr ⟨by simp,by simp [upd],by simp [upd],by simp [upd,List.take_of_length_le],by simp [upd,List.take_of_length_le,c1]⟩,hu⟩) ?_
        rintro r g' ob' ⟨o1,o2,o3⟩
        rw [put_same (st:={ st with labs:=st.labs ++ [(l,st.code.length)] }) hop hlenc,← hsp] at o3
        have o2g:=o1 2 (by decide)
        have o2o:=o2 2 (by decide) (by decide)
        simp [upd,q2g] at o2g
        simp [upd,q2o] at o2o
        cases hst:stepA (k + 1) st x with
        | err e =>
          have hne:¬ ((e:Nat):Int) = 0:=by have:=stepA_ne hst; omega
          rw [hst] at o3
          simp only at o3
          subst o3
          rw [hbad e hst] at hP
          subst hP
          simp only [go_sem,↓reduceIte,q2,q2g,q2o,q5,q6,q7,hkw,strs,hl0,hg,h20,l57,l69,List.length_map,hop,hne,o2g,o2o,buildA]
          exact ⟨_,frz_read (code:=[]) (d:=0) (n:=k + 1) (e:=e) (.d _),rfl⟩
        | ok st' =>
          rw [hst] at o3
          obtain ⟨rfl,hM'⟩:=o3
          have hgrow:=stepA_grow hst
          have hgl:=stepA_labs hst
          simp only [go_sem,↓reduceIte,q2,q2g,q2o,q5,q6,q7,hkw,strs,hl0,hg,h20,l57,l69,List.length_map,hop]
          refine round_end (nn - 1) (by omega) ⟨k + 1,st',by omega,by rw [hli,linesA_ok hst],hwf' st' hst,by omega,by omega,?_⟩
          simp only [go_sem,↓reduceIte,q2,q2g,q2o,q5,q6,q7,hkw,strs,hl0,hg,h20,l57,l69,List.length_map,hop]
          exact ⟨hM',o2g,o2o⟩
     ·rcases hl with ⟨l1,rfl,rfl⟩ | ⟨l1,rfl,rfl,l57,l69⟩
      ·refine draw_det Tt_ok mixed [56,57,68,69,20] [([5],[0,1,2,3],[],false),([5],[0,1,2,3,4],[],false),([5],[0,2],[],false),([51],[0,2],[],false),([52],[0,2],[],false),([53],[0,2],[],false),([8],[2],[],false),([55],[2],[0],false),([54,56],[2],[1],false),([5],[0,1,2],[],false),([58],[0,1,2],[],false),([59],[0,1,2],[],false),([60],[0,1,2],[],false),([5],[0,1],[],false),([62],[0,1],[],false),([63],[0,1],[],false),([64],[0,1],[],false),([65],[0,1],[],false),([66],[0,1],[],false),([67],[0,1],[2],false),([61,68],[],[3],false),([49],[],[],false),([70],[],[],false),([71,57],[],[4],false),([50],[],[],false),([72],[],[],false),([73,69],[],[],true)] 5 (by decide +kernel) rfl (by decide) ?_
       simp only [go_sem,↓reduceIte]
       iterate 7 (apply det_pure; · (intro fa ga oa K' hK; simp only [go_sem,↓reduceIte,q2,q2g,q2o,q5,q6,q7,hkw,strs,hl0,hg,h20,c3,codeC,List.length_map] at hK ⊢; exact hK))
       (apply det_new; · (intro fa ga oa K' hK; simp only [go_sem,↓reduceIte,q2,q2g,q2o,q5,q6,q7,hkw,strs,hl0,hg,h20,c3,codeC,List.length_map,elemTy] at hK ⊢; exact hK))
       (apply det_new; · (intro fa ga oa K' hK; simp only [go_sem,↓reduceIte,q2,q2g,q2o,q5,q6,q7,hkw,strs,hl0,hg,h20,c3,codeC,List.length_map,elemTy] at hK ⊢; first | exact ⟨⟨by decide,by decide⟩,hK⟩ | exact ⟨⟨by decide,by omega⟩,hK⟩ | exact ⟨Nat.le_refl _,⟨by decide,by omega⟩,hK⟩))
       iterate 10 (apply det_pure; · (intro fa ga oa K' hK; simp only [go_sem,↓reduceIte,q2,q2g,q2o,q5,q6,q7,hkw,strs,hl0,hg,h20,c3,codeC,List.length_map] at hK ⊢; exact hK))
       (apply det_new; · (intro fa ga oa K' hK; simp only [go_sem,↓reduceIte,q2,q2g,q2o,q5,q6,q7,hkw,strs,hl0,hg,h20,c3,codeC,List.length_map,elemTy] at hK ⊢; exact hK))
       (apply det_new; · (intro fa ga oa K' hK; simp only [go_sem,↓reduceIte,q2,q2g,q2o,q5,q6,q7,hkw,strs,hl0,hg,h20,c3,codeC,List.length_map,elemTy] at hK ⊢; first | exact ⟨⟨by decide,by decide⟩,hK⟩ | exact ⟨⟨by decide,by omega⟩,hK⟩ | exact ⟨Nat.le_refl _,⟨by decide,by omega⟩,hK⟩))
       iterate 2 (apply det_pure; · (intro fa ga oa K' hK; simp only [go_sem,↓reduceIte,q2,q2g,q2o,q5,q6,q7,hkw,strs,hl0,hg,h20,c3,codeC,List.length_map] at hK ⊢; exact hK))
       (apply det_store; (focus simp); (focus (intro fa ga oa K' hK; simp only [go_sem,↓reduceIte,q2,q2g,q2o,q5,q6,q7,hkw,strs,hl0,hg,h20,c3,codeC,List.length_map] at hK ⊢; exact hK)))
       iterate 2 (apply det_pure; · (intro fa ga oa K' hK; simp only [go_sem,↓reduceIte,q2,q2g,q2o,q5,q6,q7,hkw,strs,hl0,hg,h20,c3,codeC,List.length_map] at hK ⊢; exact hK))
       apply det_last
       intro K' hK'
       simp only [go_sem,↓reduceIte,q2,q2g,q2o,q5,q6,q7,hkw,strs,hl0,hg,h20,c3,codeC,List.length_map]
       refine hK' _ ?_
       clear hK' K'
       by_cases hop:op = []
       case pos =>
        subst hop
        have hst:stepA (k + 1) st x = .ok { st with labs:=st.labs ++ [(l,st.code.length)] }:=by rw [hsp]; exact opA_nil
        have hgrow:=stepA_grow hst
        have hgl:=stepA_labs hst
        simp only [go_sem,↓reduceIte,q2,q2g,q2o,q5,q6,q7,hkw,strs,hl0,hg,h20,c3,codeC,List.length_map]
        refine round_end (nn - 1) (by omega) ⟨k + 1,_,by omega,by rw [hli,linesA_ok hst],hwf' _ hst,by omega,by omega,?_⟩
        simp only [go_sem,↓reduceIte,q2,q2g,q2o,q5,q6,q7,hkw,strs,hl0,hg,h20,c3,codeC,List.length_map]
        exact ⟨by simp [upd,hg],_,_,_,uc,rfl,.inr ⟨c1,3172,.inl rfl,by simp [upd],by simp [upd,c3]⟩,.inr ⟨by simp,by simp [upd,l1],by simp [upd,l1],by simp [upd,l1],by simp [upd,l1]⟩,hu⟩
       case neg =>
        simp only [go_sem,↓reduceIte,q2,q2g,q2o,q5,q6,q7,hkw,strs,hl0,hg,h20,c3,codeC,List.length_map,hop]
        refine hook_fun (R:=OutM gr (putA (k + 1) { st with labs:=st.labs ++ [(l,st.code.length)] } op args) _ _) rfl (by simp only [go_sem,↓reduceIte,q2,q2g,q2o,q5,q6,q7,hkw,strs,hl0,hg,h20,c3,codeC,List.length_map,hop]; refine put_A (st:={ st with labs:=st.labs ++ [(l,st.code.length)] }) ?_ op args (k + 1) (by omega) (by omega) (fun a ha=>by have:=hax a ha; omega) hlenc (show st.uses.length ≤ 1000000 by omega); exact ⟨by simp [upd,hg],_,_,_,uc,rfl,.inr ⟨c1,3172,.inl rfl,by simp [upd],by simp [upd,c3]⟩,.inr ⟨by simp,by simp [upd,l1],by simp [upd,l1],by simp [upd,l1],by simp [upd,l1]⟩,hu⟩) ?_
        rintro r g' ob' ⟨o1,o2,o3⟩
        rw [put_same (st:={ st with labs:=st.labs ++ [(l,st.code.length)] }) hop hlenc,← hsp] at o3
        have o2g:=o1 2 (by decide)
        have o2o:=o2 2 (by decide) (by decide)
        simp [upd,q2g] at o2g
        simp [upd,q2o] at o2o
        cases hst:stepA (k + 1) st x with
        | err e =>
          have hne:¬ ((e:Nat):Int) = 0:=by have:=stepA_ne hst; omega
          rw [hst] at o3
          simp only at o3
          subst o3
          rw [hbad e hst] at hP
          subst hP
          simp only [go_sem,↓reduceIte,q2,q2g,q2o,q5,q6,q7,hkw,strs,hl0,hg,h20,c3,codeC,List.length_map,hop,hne,o2g,o2o,buildA]
          exact ⟨_,frz_read (code:=[]) (d:=0) (n:=k + 1) (e:=e) (.d _),rfl⟩
        | ok st' =>
          rw [hst] at o3
          obtain ⟨rfl,hM'⟩:=o3
          have hgrow:=stepA_grow hst
          have hgl:=stepA_labs hst
          simp only [go_sem,↓reduceIte,q2,q2g,q2o,q5,q6,q7,hkw,strs,hl0,hg,h20,c3,codeC,List.length_map,hop]
          refine round_end (nn - 1) (by omega) ⟨k + 1,st',by omega,by rw [hli,linesA_ok hst],hwf' st' hst,by omega,by omega,?_⟩
          simp only [go_sem,↓reduceIte,q2,q2g,q2o,q5,q6,q7,hkw,strs,hl0,hg,h20,c3,codeC,List.length_map,hop]
          exact ⟨hM',o2g,o2o⟩
      ·refine draw_det Tt_ok mixed [56,57,68,69,20] [([5],[0,1,2,3],[],false),([5],[0,1,2,3,4],[],false),([5],[0,2],[],false),([51],[0,2],[],false),([52],[0,2],[],false),([53],[0,2],[],false),([8],[2],[],false),([55],[2],[0],false),([54,56],[2],[1],false),([5],[0,1,2],[],false),([58],[0,1,2],[],false),([59],[0,1,2],[],false),([60],[0,1,2],[],false),([5],[0,1],[],false),([62],[0,1],[],false),([63],[0,1],[],false),([64],[0,1],[],false),([65],[0,1],[],false),([66],[0,1],[],false),([67],[0,1],[2],false),([61,68],[],[3],false),([49],[],[],false),([70],[],[],false),([71,57],[],[4],false),([50],[],[],false),([72],[],[],false),([73,69],[],[],true)] 5 (by decide +kernel) rfl (by decide) ?_
       simp only [go_sem,↓reduceIte]
       iterate 7 (apply det_pure; · (intro fa ga oa K' hK; simp only [go_sem,↓reduceIte,q2,q2g,q2o,q5,q6,q7,hkw,strs,hl0,hg,h20,c3,codeC,l57,l69,List.length_map] at hK ⊢; exact hK))
       (apply det_new; · (intro fa ga oa K' hK; simp only [go_sem,↓reduceIte,q2,q2g,q2o,q5,q6,q7,hkw,strs,hl0,hg,h20,c3,codeC,l57,l69,List.length_map,elemTy] at hK ⊢; exact hK))
       (apply det_new; · (intro fa ga oa K' hK; simp only [go_sem,↓reduceIte,q2,q2g,q2o,q5,q6,q7,hkw,strs,hl0,hg,h20,c3,codeC,l57,l69,List.length_map,elemTy] at hK ⊢; first | exact ⟨⟨by decide,by decide⟩,hK⟩ | exact ⟨⟨by decide,by omega⟩,hK⟩ | exact ⟨Nat.le_refl _,⟨by decide,by omega⟩,hK⟩))
       iterate 10 (apply det_pure; · (intro fa ga oa K' hK; simp only [go_sem,↓reduceIte,q2,q2g,q2o,q5,q6,q7,hkw,strs,hl0,hg,h20,c3,codeC,l57,l69,List.length_map] at hK ⊢; exact hK))
       (apply det_new; · (intro fa ga oa K' hK; simp only [go_sem,↓reduceIte,q2,q2g,q2o,q5,q6,q7,hkw,strs,hl0,hg,h20,c3,codeC,l57,l69,List.length_map,elemTy] at hK ⊢; exact hK))
       (apply det_new; · (intro fa ga oa K' hK; simp only [go_sem,↓reduceIte,q2,q2g,q2o,q5,q6,q7,hkw,strs,hl0,hg,h20,c3,codeC,l57,l69,List.length_map,elemTy] at hK ⊢; first | exact ⟨⟨by decide,by decide⟩,hK⟩ | exact ⟨⟨by decide,by omega⟩,hK⟩ | exact ⟨Nat.le_refl _,⟨by decide,by omega⟩,hK⟩))
       iterate 2 (apply det_pure; · (intro fa ga oa K' hK; simp only [go_sem,↓reduceIte,q2,q2g,q2o,q5,q6,q7,hkw,strs,hl0,hg,h20,c3,codeC,l57,l69,List.length_map] at hK ⊢; exact hK))
       (apply det_store; (focus simp); (focus (intro fa ga oa K' hK; simp only [go_sem,↓reduceIte,q2,q2g,q2o,q5,q6,q7,hkw,strs,hl0,hg,h20,c3,codeC,l57,l69,List.length_map] at hK ⊢; exact hK)))
       iterate 2 (apply det_pure; · (intro fa ga oa K' hK; simp only [go_sem,↓reduceIte,q2,q2g,q2o,q5,q6,q7,hkw,strs,hl0,hg,h20,c3,codeC,l57,l69,List.length_map] at hK ⊢; exact hK))
       apply det_last
       intro K' hK'
       simp only [go_sem,↓reduceIte,q2,q2g,q2o,q5,q6,q7,hkw,strs,hl0,hg,h20,c3,codeC,l57,l69,List.length_map]
       refine hK' _ ?_
       clear hK' K'
       by_cases hop:op = []
       case pos =>
        subst hop
        have hst:stepA (k + 1) st x = .ok { st with labs:=st.labs ++ [(l,st.code.length)] }:=by rw [hsp]; exact opA_nil
        have hgrow:=stepA_grow hst
        have hgl:=stepA_labs hst
        simp only [go_sem,↓reduceIte,q2,q2g,q2o,q5,q6,q7,hkw,strs,hl0,hg,h20,c3,codeC,l57,l69,List.length_map]
        refine round_end (nn - 1) (by omega) ⟨k + 1,_,by omega,by rw [hli,linesA_ok hst],hwf' _ hst,by omega,by omega,?_⟩
        simp only [go_sem,↓reduceIte,q2,q2g,q2o,q5,q6,q7,hkw,strs,hl0,hg,h20,c3,codeC,l57,l69,List.length_map]
        exact ⟨by simp [upd,hg],_,_,_,uc,rfl,.inr ⟨c1,3172,.inl rfl,by simp [upd],by simp [upd,c3]⟩,.inr ⟨by simp,by simp [upd],by simp [upd],by simp [upd,List.take_of_length_le],by simp [upd,List.take_of_length_le]⟩,hu⟩
       case neg =>
        simp only [go_sem,↓reduceIte,q2,q2g,q2o,q5,q6,q7,hkw,strs,hl0,hg,h20,c3,codeC,l57,l69,List.length_map,hop]
        refine hook_fun (R:=OutM gr (putA (k + 1) { st with labs:=st.labs ++ [(l,st.code.length)] } op args) _ _) rfl (by simp only [go_sem,↓reduceIte,q2,q2g,q2o,q5,q6,q7,hkw,strs,hl0,hg,h20,c3,codeC,l57,l69,List.length_map,hop]; refine put_A (st:={ st with labs:=st.labs ++ [(l,st.code.length)] }) ?_ op args (k + 1) (by omega) (by omega) (fun a ha=>by have:=hax a ha; omega) hlenc (show st.uses.length ≤ 1000000 by omega); exact ⟨by simp [upd,hg],_,_,_,uc,rfl,.inr ⟨c1,3172,.inl rfl,by simp [upd],by simp [upd,c3]⟩,.inr ⟨by simp,by simp [upd],by simp [upd],by simp [upd,List.take_of_length_le],by simp [upd,List.take_of_length_le]⟩,hu⟩) ?_
        rintro r g' ob' ⟨o1,o2,o3⟩
        rw [put_same (st:={ st with labs:=st.labs ++ [(l,st.code.length)] }) hop hlenc,← hsp] at o3
        have o2g:=o1 2 (by decide)
        have o2o:=o2 2 (by decide) (by decide)
        simp [upd,q2g] at o2g
        simp [upd,q2o] at o2o
        cases hst:stepA (k + 1) st x with
        | err e =>
          have hne:¬ ((e:Nat):Int) = 0:=by have:=stepA_ne hst; omega
          rw [hst] at o3
          simp only at o3
          subst o3
          rw [hbad e hst] at hP
          subst hP
          simp only [go_sem,↓reduceIte,q2,q2g,q2o,q5,q6,q7,hkw,strs,hl0,hg,h20,c3,codeC,l57,l69,List.length_map,hop,hne,o2g,o2o,buildA]
          exact ⟨_,frz_read (code:=[]) (d:=0) (n:=k + 1) (e:=e) (.d _),rfl⟩
        | ok st' =>
          rw [hst] at o3
          obtain ⟨rfl,hM'⟩:=o3
          have hgrow:=stepA_grow hst
          have hgl:=stepA_labs hst
          simp only [go_sem,↓reduceIte,q2,q2g,q2o,q5,q6,q7,hkw,strs,hl0,hg,h20,c3,codeC,l57,l69,List.length_map,hop]
          refine round_end (nn - 1) (by omega) ⟨k + 1,st',by omega,by rw [hli,linesA_ok hst],hwf' st' hst,by omega,by omega,?_⟩
          simp only [go_sem,↓reduceIte,q2,q2g,q2o,q5,q6,q7,hkw,strs,hl0,hg,h20,c3,codeC,l57,l69,List.length_map,hop]
          exact ⟨hM',o2g,o2o⟩
     ·rcases hl with ⟨l1,rfl,rfl⟩ | ⟨l1,rfl,rfl,l57,l69⟩
      ·refine draw_det Tt_ok mixed [56,57,68,69,20] [([5],[0,1,2,3],[],false),([5],[0,1,2,3,4],[],false),([5],[0,2],[],false),([51],[0,2],[],false),([52],[0,2],[],false),([53],[0,2],[],false),([8],[2],[],false),([55],[2],[0],false),([54,56],[2],[1],false),([5],[0,1,2],[],false),([58],[0,1,2],[],false),([59],[0,1,2],[],false),([60],[0,1,2],[],false),([5],[0,1],[],false),([62],[0,1],[],false),([63],[0,1],[],false),([64],[0,1],[],false),([65],[0,1],[],false),([66],[0,1],[],false),([67],[0,1],[2],false),([61,68],[],[3],false),([49],[],[],false),([70],[],[],false),([71,57],[],[4],false),([50],[],[],false),([72],[],[],false),([73,69],[],[],true)] 5 (by decide +kernel) rfl (by decide) ?_
       simp only [go_sem,↓reduceIte]
       iterate 7 (apply det_pure; · (intro fa ga oa K' hK; simp only [go_sem,↓reduceIte,q2,q2g,q2o,q5,q6,q7,hkw,strs,hl0,hg,h20,c3,codeC,List.length_map] at hK ⊢; exact hK))
       (apply det_new; · (intro fa ga oa K' hK; simp only [go_sem,↓reduceIte,q2,q2g,q2o,q5,q6,q7,hkw,strs,hl0,hg,h20,c3,codeC,List.length_map,elemTy] at hK ⊢; exact hK))
       (apply det_new; · (intro fa ga oa K' hK; simp only [go_sem,↓reduceIte,q2,q2g,q2o,q5,q6,q7,hkw,strs,hl0,hg,h20,c3,codeC,List.length_map,elemTy] at hK ⊢; first | exact ⟨⟨by decide,by decide⟩,hK⟩ | exact ⟨⟨by decide,by omega⟩,hK⟩ | exact ⟨Nat.le_refl _,⟨by decide,by omega⟩,hK⟩))
       iterate 10 (apply det_pure; · (intro fa ga oa K' hK; simp only [go_sem,↓reduceIte,q2,q2g,q2o,q5,q6,q7,hkw,strs,hl0,hg,h20,c3,codeC,List.length_map] at hK ⊢; exact hK))
       (apply det_new; · (intro fa ga oa K' hK; simp only [go_sem,↓reduceIte,q2,q2g,q2o,q5,q6,q7,hkw,strs,hl0,hg,h20,c3,codeC,List.length_map,elemTy] at hK ⊢; exact hK))
       (apply det_new; · (intro fa ga oa K' hK; simp only [go_sem,↓reduceIte,q2,q2g,q2o,q5,q6,q7,hkw,strs,hl0,hg,h20,c3,codeC,List.length_map,elemTy] at hK ⊢; first | exact ⟨⟨by decide,by decide⟩,hK⟩ | exact ⟨⟨by decide,by omega⟩,hK⟩ | exact ⟨Nat.le_refl _,⟨by decide,by omega⟩,hK⟩))
       iterate 2 (apply det_pure; · (intro fa ga oa K' hK; simp only [go_sem,↓reduceIte,q2,q2g,q2o,q5,q6,q7,hkw,strs,hl0,hg,h20,c3,codeC,List.length_map] at hK ⊢; exact hK))
       (apply det_store; (focus simp); (focus (intro fa ga oa K' hK; simp only [go_sem,↓reduceIte,q2,q2g,q2o,q5,q6,q7,hkw,strs,hl0,hg,h20,c3,codeC,List.length_map] at hK ⊢; exact hK)))
       iterate 2 (apply det_pure; · (intro fa ga oa K' hK; simp only [go_sem,↓reduceIte,q2,q2g,q2o,q5,q6,q7,hkw,strs,hl0,hg,h20,c3,codeC,List.length_map] at hK ⊢; exact hK))
       apply det_last
       intro K' hK'
       simp only [go_sem,↓reduceIte,q2,q2g,q2o,q5,q6,q7,hkw,strs,hl0,hg,h20,c3,codeC,List.length_map]
       refine hK' _ ?_
       clear hK' K'
       by_cases hop:op = []
       case pos =>
        subst hop
        have hst:stepA (k + 1) st x = .ok { st with labs:=st.labs ++ [(l,st.code.length)] }:=by rw [hsp]; exact opA_nil
        have hgrow:=stepA_grow hst
        have hgl:=stepA_labs hst
        simp only [go_sem,↓reduceIte,q2,q2g,q2o,q5,q6,q7,hkw,strs,hl0,hg,h20,c3,codeC,List.length_map]
        refine round_end (nn - 1) (by omega) ⟨k + 1,_,by omega,by rw [hli,linesA_ok hst],hwf' _ hst,by omega,by omega,?_⟩
        simp only [go_sem,↓reduceIte,q2,q2g,q2o,q5,q6,q7,hkw,strs,hl0,hg,h20,c3,codeC,List.length_map]
        exact ⟨by simp [upd,hg],_,_,_,uc,rfl,.inr ⟨c1,3223,.inr rfl,by simp [upd],by simp [upd,c3]⟩,.inr ⟨by simp,by simp [upd,l1],by simp [upd,l1],by simp [upd,l1],by simp [upd,l1]⟩,hu⟩
       case neg =>
        simp only [go_sem,↓reduceIte,q2,q2g,q2o,q5,q6,q7,hkw,strs,hl0,hg,h20,c3,codeC,List.length_map,hop]
        refine hook_fun (R:=OutM gr (putA (k + 1) { st with labs:=st.labs ++ [(l,st.code.length)] } op args) _ _) rfl (by simp only [go_sem,↓reduceIte,q2,q2g,q2o,q5,q6,q7,hkw,strs,hl0,hg,h20,c3,codeC,List.length_map,hop]; refine put_A (st:={ st with labs:=st.labs ++ [(l,st.code.length)] }) ?_ op args (k + 1) (by omega) (by omega) (fun a ha=>by have:=hax a ha; omega) hlenc (show st.uses.length ≤ 1000000 by omega); exact ⟨by simp [upd,hg],_,_,_,uc,rfl,.inr ⟨c1,3223,.inr rfl,by simp [upd],by simp [upd,c3]⟩,.inr ⟨by simp,by simp [upd,l1],by simp [upd,l1],by simp [upd,l1],by simp [upd,l1]⟩,hu⟩) ?_
        rintro r g' ob' ⟨o1,o2,o3⟩
        rw [put_same (st:={ st with labs:=st.labs ++ [(l,st.code.length)] }) hop hlenc,← hsp] at o3
        have o2g:=o1 2 (by decide)
        have o2o:=o2 2 (by decide) (by decide)
        simp [upd,q2g] at o2g
        simp [upd,q2o] at o2o
        cases hst:stepA (k + 1) st x with
        | err e =>
          have hne:¬ ((e:Nat):Int) = 0:=by have:=stepA_ne hst; omega
          rw [hst] at o3
          simp only at o3
          subst o3
          rw [hbad e hst] at hP
          subst hP
          simp only [go_sem,↓reduceIte,q2,q2g,q2o,q5,q6,q7,hkw,strs,hl0,hg,h20,c3,codeC,List.length_map,hop,hne,o2g,o2o,buildA]
          exact ⟨_,frz_read (code:=[]) (d:=0) (n:=k + 1) (e:=e) (.d _),rfl⟩
        | ok st' =>
          rw [hst] at o3
          obtain ⟨rfl,hM'⟩:=o3
          have hgrow:=stepA_grow hst
          have hgl:=stepA_labs hst
          simp only [go_sem,↓reduceIte,q2,q2g,q2o,q5,q6,q7,hkw,strs,hl0,hg,h20,c3,codeC,List.length_map,hop]
          refine round_end (nn - 1) (by omega) ⟨k + 1,st',by omega,by rw [hli,linesA_ok hst],hwf' st' hst,by omega,by omega,?_⟩
          simp only [go_sem,↓reduceIte,q2,q2g,q2o,q5,q6,q7,hkw,strs,hl0,hg,h20,c3,codeC,List.length_map,hop]
          exact ⟨hM',o2g,o2o⟩
      ·refine draw_det Tt_ok mixed [56,57,68,69,20] [([5],[0,1,2,3],[],false),([5],[0,1,2,3,4],[],false),([5],[0,2],[],false),([51],[0,2],[],false),([52],[0,2],[],false),([53],[0,2],[],false),([8],[2],[],false),([55],[2],[0],false),([54,56],[2],[1],false),([5],[0,1,2],[],false),([58],[0,1,2],[],false),([59],[0,1,2],[],false),([60],[0,1,2],[],false),([5],[0,1],[],false),([62],[0,1],[],false),([63],[0,1],[],false),([64],[0,1],[],false),([65],[0,1],[],false),([66],[0,1],[],false),([67],[0,1],[2],false),([61,68],[],[3],false),([49],[],[],false),([70],[],[],false),([71,57],[],[4],false),([50],[],[],false),([72],[],[],false),([73,69],[],[],true)] 5 (by decide +kernel) rfl (by decide) ?_
       simp only [go_sem,↓reduceIte]
       iterate 7 (apply det_pure; · (intro fa ga oa K' hK; simp only [go_sem,↓reduceIte,q2,q2g,q2o,q5,q6,q7,hkw,strs,hl0,hg,h20,c3,codeC,l57,l69,List.length_map] at hK ⊢; exact hK))
       (apply det_new; · (intro fa ga oa K' hK; simp only [go_sem,↓reduceIte,q2,q2g,q2o,q5,q6,q7,hkw,strs,hl0,hg,h20,c3,codeC,l57,l69,List.length_map,elemTy] at hK ⊢; exact hK))
       (apply det_new; · (intro fa ga oa K' hK; simp only [go_sem,↓reduceIte,q2,q2g,q2o,q5,q6,q7,hkw,strs,hl0,hg,h20,c3,codeC,l57,l69,List.length_map,elemTy] at hK ⊢; first | exact ⟨⟨by decide,by decide⟩,hK⟩ | exact ⟨⟨by decide,by omega⟩,hK⟩ | exact ⟨Nat.le_refl _,⟨by decide,by omega⟩,hK⟩))
       iterate 10 (apply det_pure; · (intro fa ga oa K' hK; simp only [go_sem,↓reduceIte,q2,q2g,q2o,q5,q6,q7,hkw,strs,hl0,hg,h20,c3,codeC,l57,l69,List.length_map] at hK ⊢; exact hK))
       (apply det_new; · (intro fa ga oa K' hK; simp only [go_sem,↓reduceIte,q2,q2g,q2o,q5,q6,q7,hkw,strs,hl0,hg,h20,c3,codeC,l57,l69,List.length_map,elemTy] at hK ⊢; exact hK))
       (apply det_new; · (intro fa ga oa K' hK; simp only [go_sem,↓reduceIte,q2,q2g,q2o,q5,q6,q7,hkw,strs,hl0,hg,h20,c3,codeC,l57,l69,List.length_map,elemTy] at hK ⊢; first | exact ⟨⟨by decide,by decide⟩,hK⟩ | exact ⟨⟨by decide,by omega⟩,hK⟩ | exact ⟨Nat.le_refl _,⟨by decide,by omega⟩,hK⟩))
       iterate 2 (apply det_pure; · (intro fa ga oa K' hK; simp only [go_sem,↓reduceIte,q2,q2g,q2o,q5,q6,q7,hkw,strs,hl0,hg,h20,c3,codeC,l57,l69,List.length_map] at hK ⊢; exact hK))
       (apply det_store; (focus simp); (focus (intro fa ga oa K' hK; simp only [go_sem,↓reduceIte,q2,q2g,q2o,q5,q6,q7,hkw,strs,hl0,hg,h20,c3,codeC,l57,l69,List.length_map] at hK ⊢; exact hK)))
       iterate 2 (apply det_pure; · (intro fa ga oa K' hK; simp only [go_sem,↓reduceIte,q2,q2g,q2o,q5,q6,q7,hkw,strs,hl0,hg,h20,c3,codeC,l57,l69,List.length_map] at hK ⊢; exact hK))
       apply det_last
       intro K' hK'
       simp only [go_sem,↓reduceIte,q2,q2g,q2o,q5,q6,q7,hkw,strs,hl0,hg,h20,c3,codeC,l57,l69,List.length_map]
       refine hK' _ ?_
       clear hK' K'
       by_cases hop:op = []
       case pos =>
        subst hop
        have hst:stepA (k + 1) st x = .ok { st with labs:=st.labs ++ [(l,st.code.length)] }:=by rw [hsp]; exact opA_nil
        have hgrow:=stepA_grow hst
        have hgl:=stepA_labs hst
        simp only [go_sem,↓reduceIte,q2,q2g,q2o,q5,q6,q7,hkw,strs,hl0,hg,h20,c3,codeC,l57,l69,List.length_map]
        refine round_end (nn - 1) (by omega) ⟨k + 1,_,by omega,by rw [hli,linesA_ok hst],hwf' _ hst,by omega,by omega,?_⟩
        simp only [go_sem,↓reduceIte,q2,q2g,q2o,q5,q6,q7,hkw,strs,hl0,hg,h20,c3,codeC,l57,l69,List.length_map]
        exact ⟨by simp [upd,hg],_,_,_,uc,rfl,.inr ⟨c1,3223,.inr rfl,by simp [upd],by simp [upd,c3]⟩,.inr ⟨by simp,by simp [upd],by simp [upd],by simp [upd,List.take_of_length_le],by simp [upd,List.take_of_length_le]⟩,hu⟩
       case neg =>
        simp only [go_sem,↓reduceIte,q2,q2g,q2o,q5,q6,q7,hkw,strs,hl0,hg,h20,c3,codeC,l57,l69,List.length_map,hop]
        refine hook_fun (R:=OutM gr (putA (k + 1) { st with labs:=st.labs ++ [(l,st.code.length)] } op args) _ _) rfl (by simp only [go_sem,↓reduceIte,q2,q2g,q2o,q5,q6,q7,hkw,strs,hl0,hg,h20,c3,codeC,l57,l69,List.length_map,hop]; refine put_A (st:={ st with labs:=st.labs ++ [(l,st.code.length)] }) ?_ op args (k + 1) (by omega) (by omega) (fun a ha=>by have:=hax a ha; omega) hlenc (show st.uses.length ≤ 1000000 by omega); exact ⟨by simp [upd,hg],_,_,_,uc,rfl,.inr ⟨c1,3223,.inr rfl,by simp [upd],by simp [upd,c3]⟩,.inr ⟨by simp,by simp [upd],by simp [upd],by simp [upd,List.take_of_length_le],by simp [upd,List.take_of_length_le]⟩,hu⟩) ?_
        rintro r g' ob' ⟨o1,o2,o3⟩
        rw [put_same (st:={ st with labs:=st.labs ++ [(l,st.code.length)] }) hop hlenc,← hsp] at o3
        have o2g:=o1 2 (by decide)
        have o2o:=o2 2 (by decide) (by decide)
        simp [upd,q2g] at o2g
        simp [upd,q2o] at o2o
        cases hst:stepA (k + 1) st x with
        | err e =>
          have hne:¬ ((e:Nat):Int) = 0:=by have:=stepA_ne hst; omega
          rw [hst] at o3
          simp only at o3
          subst o3
          rw [hbad e hst] at hP
          subst hP
          simp only [go_sem,↓reduceIte,q2,q2g,q2o,q5,q6,q7,hkw,strs,hl0,hg,h20,c3,codeC,l57,l69,List.length_map,hop,hne,o2g,o2o,buildA]
          exact ⟨_,frz_read (code:=[]) (d:=0) (n:=k + 1) (e:=e) (.d _),rfl⟩
        | ok st' =>
          rw [hst] at o3
          obtain ⟨rfl,hM'⟩:=o3
          have hgrow:=stepA_grow hst
          have hgl:=stepA_labs hst
          simp only [go_sem,↓reduceIte,q2,q2g,q2o,q5,q6,q7,hkw,strs,hl0,hg,h20,c3,codeC,l57,l69,List.length_map,hop]
          refine round_end (nn - 1) (by omega) ⟨k + 1,st',by omega,by rw [hli,linesA_ok hst],hwf' st' hst,by omega,by omega,?_⟩
          simp only [go_sem,↓reduceIte,q2,q2g,q2o,q5,q6,q7,hkw,strs,hl0,hg,h20,c3,codeC,l57,l69,List.length_map,hop]
          exact ⟨hM',o2g,o2o⟩
    case some p =>
     have hst:=stepA_dup (n:=k + 1) hla hl0 hpo
     rw [hbad 4 hst] at hP
     subst hP
     have hp0:(0:Int) ≤ (p:Int):=by omega
     simp only [go_sem,↓reduceIte,q2,q2g,q2o,q5,q6,q7,hkw,strs,hl0,hp0]
     rcases hc with ⟨c1,rfl⟩ | ⟨c1,ci,rfl | rfl,rfl,c3⟩
     ·rcases hl with ⟨l1,rfl,rfl⟩ | ⟨l1,rfl,rfl,l57,l69⟩
      ·refine draw_det Tt_ok mixed [56,57,68,69,20] [([5],[0,1,2,3],[],false),([5],[0,1,2,3,4],[],false),([5],[0,2],[],false),([51],[0,2],[],false),([52],[0,2],[],false),([53],[0,2],[],false),([8],[2],[],false),([55],[2],[0],false),([54,56],[2],[1],false),([5],[0,1,2],[],false),([58],[0,1,2],[],false),([59],[0,1,2],[],false),([60],[0,1,2],[],false),([5],[0,1],[],false),([62],[0,1],[],false),([63],[0,1],[],false),([64],[0,1],[],false),([65],[0,1],[],false),([66],[0,1],[],false),([67],[0,1],[2],false),([61,68],[],[3],false),([49],[],[],false),([70],[],[],false),([71,57],[],[4],false),([50],[],[],false),([72],[],[],false),([73,69],[],[],true)] 5 (by decide +kernel) rfl (by decide) ?_
       simp only [go_sem,↓reduceIte]
       iterate 7 (apply det_pure; · (intro fa ga oa K' hK; simp only [go_sem,↓reduceIte,q2,q2g,q2o,q5,q6,q7,hkw,strs,hl0,hg,h20,List.length_map] at hK ⊢; exact hK))
       (apply det_new; · (intro fa ga oa K' hK; simp only [go_sem,↓reduceIte,q2,q2g,q2o,q5,q6,q7,hkw,strs,hl0,hg,h20,List.length_map,elemTy] at hK ⊢; exact hK))
       (apply det_new; · (intro fa ga oa K' hK; simp only [go_sem,↓reduceIte,q2,q2g,q2o,q5,q6,q7,hkw,strs,hl0,hg,h20,List.length_map,elemTy] at hK ⊢; first | exact ⟨⟨by decide,by decide⟩,hK⟩ | exact ⟨⟨by decide,by omega⟩,hK⟩ | exact ⟨Nat.le_refl _,⟨by decide,by omega⟩,hK⟩))
       iterate 10 (apply det_pure; · (intro fa ga oa K' hK; simp only [go_sem,↓reduceIte,q2,q2g,q2o,q5,q6,q7,hkw,strs,hl0,hg,h20,List.length_map] at hK ⊢; exact hK))
       (apply det_new; · (intro fa ga oa K' hK; simp only [go_sem,↓reduceIte,q2,q2g,q2o,q5,q6,q7,hkw,strs,hl0,hg,h20,List.length_map,elemTy] at hK ⊢; exact hK))
       (apply det_new; · (intro fa ga oa K' hK; simp only [go_sem,↓reduceIte,q2,q2g,q2o,q5,q6,q7,hkw,strs,hl0,hg,h20,List.length_map,elemTy] at hK ⊢; first | exact ⟨⟨by decide,by decide⟩,hK⟩ | exact ⟨⟨by decide,by omega⟩,hK⟩ | exact ⟨Nat.le_refl _,⟨by decide,by omega⟩,hK⟩))
       iterate 2 (apply det_pure; · (intro fa ga oa K' hK; simp only [go_sem,↓reduceIte,q2,q2g,q2o,q5,q6,q7,hkw,strs,hl0,hg,h20,List.length_map] at hK ⊢; exact hK))
       (apply det_store; (focus simp); (focus (intro fa ga oa K' hK; simp only [go_sem,↓reduceIte,q2,q2g,q2o,q5,q6,q7,hkw,strs,hl0,hg,h20,List.length_map] at hK ⊢; exact hK)))
       iterate 2 (apply det_pure; · (intro fa ga oa K' hK; simp only [go_sem,↓reduceIte,q2,q2g,q2o,q5,q6,q7,hkw,strs,hl0,hg,h20,List.length_map] at hK ⊢; exact hK))
       apply det_last
       intro K' hK'
       simp only [go_sem,↓reduceIte,q2,q2g,q2o,q5,q6,q7,hkw,strs,hl0,hg,h20,List.length_map]
       refine hK' _ ?_
       clear hK' K'
       simp only [go_sem,↓reduceIte,q2,q2g,q2o,q5,q6,q7,hkw,strs,hl0,hg,h20,List.length_map,buildA]
       exact ⟨_,frz_read (code:=[]) (d:=0) (n:=k + 1) (e:=4) (.d _),rfl⟩
      ·refine draw_det Tt_ok mixed [56,57,68,69,20] [([5],[0,1,2,3],[],false),([5],[0,1,2,3,4],[],false),([5],[0,2],[],false),([51],[0,2],[],false),([52],[0,2],[],false),([53],[0,2],[],false),([8],[2],[],false),([55],[2],[0],false),([54,56],[2],[1],false),([5],[0,1,2],[],false),([58],[0,1,2],[],false),([59],[0,1,2],[],false),([60],[0,1,2],[],false),([5],[0,1],[],false),([62],[0,1],[],false),([63],[0,1],[],false),([64],[0,1],[],false),([65],[0,1],[],false),([66],[0,1],[],false),([67],[0,1],[2],false),([61,68],[],[3],false),([49],[],[],false),([70],[],[],false),([71,57],[],[4],false),([50],[],[],false),([72],[],[],false),([73,69],[],[],true)] 5 (by decide +kernel) rfl (by decide) ?_
       simp only [go_sem,↓reduceIte]
       iterate 7 (apply det_pure; · (intro fa ga oa K' hK; simp only [go_sem,↓reduceIte,q2,q2g,q2o,q5,q6,q7,hkw,strs,hl0,hg,h20,l57,l69,List.length_map] at hK ⊢; exact hK))
       (apply det_new; · (intro fa ga oa K' hK; simp only [go_sem,↓reduceIte,q2,q2g,q2o,q5,q6,q7,hkw,strs,hl0,hg,h20,l57,l69,List.length_map,elemTy] at hK ⊢; exact hK))
       (apply det_new; · (intro fa ga oa K' hK; simp only [go_sem,↓reduceIte,q2,q2g,q2o,q5,q6,q7,hkw,strs,hl0,hg,h20,l57,l69,List.length_map,elemTy] at hK ⊢; first | exact ⟨⟨by decide,by decide⟩,hK⟩ | exact ⟨⟨by decide,by omega⟩,hK⟩ | exact ⟨Nat.le_refl _,⟨by decide,by omega⟩,hK⟩))
       iterate 10 (apply det_pure; · (intro fa ga oa K' hK; simp only [go_sem,↓reduceIte,q2,q2g,q2o,q5,q6,q7,hkw,strs,hl0,hg,h20,l57,l69,List.length_map] at hK ⊢; exact hK))
       (apply det_new; · (intro fa ga oa K' hK; simp only [go_sem,↓reduceIte,q2,q2g,q2o,q5,q6,q7,hkw,strs,hl0,hg,h20,l57,l69,List.length_map,elemTy] at hK ⊢; exact hK))
       (apply det_new; · (intro fa ga oa K' hK; simp only [go_sem,↓reduceIte,q2,q2g,q2o,q5,q6,q7,hkw,strs,hl0,hg,h20,l57,l69,List.length_map,elemTy] at hK ⊢; first | exact ⟨⟨by decide,by decide⟩,hK⟩ | exact ⟨⟨by decide,by omega⟩,hK⟩ | exact ⟨Nat.le_refl _,⟨by decide,by omega⟩,hK⟩))
       iterate 2 (apply det_pure; · (intro fa ga oa K' hK; simp only [go_sem,↓reduceIte,q2,q2g,q2o,q5,q6,q7,hkw,strs,hl0,hg,h20,l57,l69,List.length_map] at hK ⊢; exact hK))
       (apply det_store; (focus simp); (focus (intro fa ga oa K' hK; simp only [go_sem,↓reduceIte,q2,q2g,q2o,q5,q6,q7,hkw,strs,hl0,hg,h20,l57,l69,List.length_map] at hK ⊢; exact hK)))
       iterate 2 (apply det_pure; · (intro fa ga oa K' hK; simp only [go_sem,↓reduceIte,q2,q2g,q2o,q5,q6,q7,hkw,strs,hl0,hg,h20,l57,l69,List.length_map] at hK ⊢; exact hK))
       apply det_last
       intro K' hK'
       simp only [go_sem,↓reduceIte,q2,q2g,q2o,q5,q6,q7,hkw,strs,hl0,hg,h20,l57,l69,List.length_map]
       refine hK' _ ?_
       clear hK' K'
       simp only [go_sem,↓reduceIte,q2,q2g,q2o,q5,q6,q7,hkw,strs,hl0,hg,h20,l57,l69,List.length_map,buildA]
       exact ⟨_,frz_read (code:=[]) (d:=0) (n:=k + 1) (e:=4) (.d _),rfl⟩
     ·rcases hl with ⟨l1,rfl,rfl⟩ | ⟨l1,rfl,rfl,l57,l69⟩
      ·refine draw_det Tt_ok mixed [56,57,68,69,20] [([5],[0,1,2,3],[],false),([5],[0,1,2,3,4],[],false),([5],[0,2],[],false),([51],[0,2],[],false),([52],[0,2],[],false),([53],[0,2],[],false),([8],[2],[],false),([55],[2],[0],false),([54,56],[2],[1],false),([5],[0,1,2],[],false),([58],[0,1,2],[],false),([59],[0,1,2],[],false),([60],[0,1,2],[],false),([5],[0,1],[],false),([62],[0,1],[],false),([63],[0,1],[],false),([64],[0,1],[],false),([65],[0,1],[],false),([66],[0,1],[],false),([67],[0,1],[2],false),([61,68],[],[3],false),([49],[],[],false),([70],[],[],false),([71,57],[],[4],false),([50],[],[],false),([72],[],[],false),([73,69],[],[],true)] 5 (by decide +kernel) rfl (by decide) ?_
       simp only [go_sem,↓reduceIte]
       iterate 7 (apply det_pure; · (intro fa ga oa K' hK; simp only [go_sem,↓reduceIte,q2,q2g,q2o,q5,q6,q7,hkw,strs,hl0,hg,h20,c3,codeC,List.length_map] at hK ⊢; exact hK))
       (apply det_new; · (intro fa ga oa K' hK; simp only [go_sem,↓reduceIte,q2,q2g,q2o,q5,q6,q7,hkw,strs,hl0,hg,h20,c3,codeC,List.length_map,elemTy] at hK ⊢; exact hK))
       (apply det_new; · (intro fa ga oa K' hK; simp only [go_sem,↓reduceIte,q2,q2g,q2o,q5,q6,q7,hkw,strs,hl0,hg,h20,c3,codeC,List.length_map,elemTy] at hK ⊢; first | exact ⟨⟨by decide,by decide⟩,hK⟩ | exact ⟨⟨by decide,by omega⟩,hK⟩ | exact ⟨Nat.le_refl _,⟨by decide,by omega⟩,hK⟩))
       iterate 10 (apply det_pure; · (intro fa ga oa K' hK; simp only [go_sem,↓reduceIte,q2,q2g,q2o,q5,q6,q7,hkw,strs,hl0,hg,h20,c3,codeC,List.length_map] at hK ⊢; exact hK))
       (apply det_new; · (intro fa ga oa K' hK; simp only [go_sem,↓reduceIte,q2,q2g,q2o,q5,q6,q7,hkw,strs,hl0,hg,h20,c3,codeC,List.length_map,elemTy] at hK ⊢; exact hK))
       (apply det_new; · (intro fa ga oa K' hK; simp only [go_sem,↓reduceIte,q2,q2g,q2o,q5,q6,q7,hkw,strs,hl0,hg,h20,c3,codeC,List.length_map,elemTy] at hK ⊢; first | exact ⟨⟨by decide,by decide⟩,hK⟩ | exact ⟨⟨by decide,by omega⟩,hK⟩ | exact ⟨Nat.le_refl _,⟨by decide,by omega⟩,hK⟩))
       iterate 2 (apply det_pure; · (intro fa ga oa K' hK; simp only [go_sem,↓reduceIte,q2,q2g,q2o,q5,q6,q7,hkw,strs,hl0,hg,h20,c3,codeC,List.length_map] at hK ⊢; exact hK))
       (apply det_store; (focus simp); (focus (intro fa ga oa K' hK; simp only [go_sem,↓reduceIte,q2,q2g,q2o,q5,q6,q7,hkw,strs,hl0,hg,h20,c3,codeC,List.length_map] at hK ⊢; exact hK)))
       iterate 2 (apply det_pure; · (intro fa ga oa K' hK; simp only [go_sem,↓reduceIte,q2,q2g,q2o,q5,q6,q7,hkw,strs,hl0,hg,h20,c3,codeC,List.length_map] at hK ⊢; exact hK))
       apply det_last
       intro K' hK'
       simp only [go_sem,↓reduceIte,q2,q2g,q2o,q5,q6,q7,hkw,strs,hl0,hg,h20,c3,codeC,List.length_map]
       refine hK' _ ?_
       clear hK' K'
       simp only [go_sem,↓reduceIte,q2,q2g,q2o,q5,q6,q7,hkw,strs,hl0,hg,h20,c3,codeC,List.length_map,buildA]
       exact ⟨_,frz_read (code:=[]) (d:=0) (n:=k + 1) (e:=4) (.d _),rfl⟩
      ·refine draw_det Tt_ok mixed [56,57,68,69,20] [([5],[0,1,2,3],[],false),([5],[0,1,2,3,4],[],false),([5],[0,2],[],false),([51],[0,2],[],false),([52],[0,2],[],false),([53],[0,2],[],false),([8],[2],[],false),([55],[2],[0],false),([54,56],[2],[1],false),([5],[0,1,2],[],false),([58],[0,1,2],[],false),([59],[0,1,2],[],false),([60],[0,1,2],[],false),([5],[0,1],[],false),([62],[0,1],[],false),([63],[0,1],[],false),([64],[0,1],[],false),([65],[0,1],[],false),([66],[0,1],[],false),([67],[0,1],[2],false),([61,68],[],[3],false),([49],[],[],false),([70],[],[],false),([71,57],[],[4],false),([50],[],[],false),([72],[],[],false),([73,69],[],[],true)] 5 (by decide +kernel) rfl (by decide) ?_
       simp only [go_sem,↓reduceIte]
       iterate 7 (apply det_pure; · (intro fa ga oa K' hK; simp only [go_sem,↓reduceIte,q2,q2g,q2o,q5,q6,q7,hkw,strs,hl0,hg,h20,c3,codeC,l57,l69,List.length_map] at hK ⊢; exact hK))
       (apply det_new; · (intro fa ga oa K' hK; simp only [go_sem,↓reduceIte,q2,q2g,q2o,q5,q6,q7,hkw,strs,hl0,hg,h20,c3,codeC,l57,l69,List.length_map,elemTy] at hK ⊢; exact hK))
       (apply det_new; · (intro fa ga oa K' hK; simp only [go_sem,↓reduceIte,q2,q2g,q2o,q5,q6,q7,hkw,strs,hl0,hg,h20,c3,codeC,l57,l69,List.length_map,elemTy] at hK ⊢; first | exact ⟨⟨by decide,by decide⟩,hK⟩ | exact ⟨⟨by decide,by omega⟩,hK⟩ | exact ⟨Nat.le_refl _,⟨by decide,by omega⟩,hK⟩))
       iterate 10 (apply det_pure; · (intro fa ga oa K' hK; simp only [go_sem,↓reduceIte,q2,q2g,q2o,q5,q6,q7,hkw,strs,hl0,hg,h20,c3,codeC,l57,l69,List.length_map] at hK ⊢; exact hK))
       (apply det_new; · (intro fa ga oa K' hK; simp only [go_sem,↓reduceIte,q2,q2g,q2o,q5,q6,q7,hkw,strs,hl0,hg,h20,c3,codeC,l57,l69,List.length_map,elemTy] at hK ⊢; exact hK))
       (apply det_new; · (intro fa ga oa K' hK; simp only [go_sem,↓reduceIte,q2,q2g,q2o,q5,q6,q7,hkw,strs,hl0,hg,h20,c3,codeC,l57,l69,List.length_map,elemTy] at hK ⊢; first | exact ⟨⟨by decide,by decide⟩,hK⟩ | exact ⟨⟨by decide,by omega⟩,hK⟩ | exact ⟨Nat.le_refl _,⟨by decide,by omega⟩,hK⟩))
       iterate 2 (apply det_pure; · (intro fa ga oa K' hK; simp only [go_sem,↓reduceIte,q2,q2g,q2o,q5,q6,q7,hkw,strs,hl0,hg,h20,c3,codeC,l57,l69,List.length_map] at hK ⊢; exact hK))
       (apply det_store; (focus simp); (focus (intro fa ga oa K' hK; simp only [go_sem,↓reduceIte,q2,q2g,q2o,q5,q6,q7,hkw,strs,hl0,hg,h20,c3,codeC,l57,l69,List.length_map] at hK ⊢; exact hK)))
       iterate 2 (apply det_pure; · (intro fa ga oa K' hK; simp only [go_sem,↓reduceIte,q2,q2g,q2o,q5,q6,q7,hkw,strs,hl0,hg,h20,c3,codeC,l57,l69,List.length_map] at hK ⊢; exact hK))
       apply det_last
       intro K' hK'
       simp only [go_sem,↓reduceIte,q2,q2g,q2o,q5,q6,q7,hkw,strs,hl0,hg,h20,c3,codeC,l57,l69,List.length_map]
       refine hK' _ ?_
       clear hK' K'
       simp only [go_sem,↓reduceIte,q2,q2g,q2o,q5,q6,q7,hkw,strs,hl0,hg,h20,c3,codeC,l57,l69,List.length_map,buildA]
       exact ⟨_,frz_read (code:=[]) (d:=0) (n:=k + 1) (e:=4) (.d _),rfl⟩
     ·rcases hl with ⟨l1,rfl,rfl⟩ | ⟨l1,rfl,rfl,l57,l69⟩
      ·refine draw_det Tt_ok mixed [56,57,68,69,20] [([5],[0,1,2,3],[],false),([5],[0,1,2,3,4],[],false),([5],[0,2],[],false),([51],[0,2],[],false),([52],[0,2],[],false),([53],[0,2],[],false),([8],[2],[],false),([55],[2],[0],false),([54,56],[2],[1],false),([5],[0,1,2],[],false),([58],[0,1,2],[],false),([59],[0,1,2],[],false),([60],[0,1,2],[],false),([5],[0,1],[],false),([62],[0,1],[],false),([63],[0,1],[],false),([64],[0,1],[],false),([65],[0,1],[],false),([66],[0,1],[],false),([67],[0,1],[2],false),([61,68],[],[3],false),([49],[],[],false),([70],[],[],false),([71,57],[],[4],false),([50],[],[],false),([72],[],[],false),([73,69],[],[],true)] 5 (by decide +kernel) rfl (by decide) ?_
       simp only [go_sem,↓reduceIte]
       iterate 7 (apply det_pure; · (intro fa ga oa K' hK; simp only [go_sem,↓reduceIte,q2,q2g,q2o,q5,q6,q7,hkw,strs,hl0,hg,h20,c3,codeC,List.length_map] at hK ⊢; exact hK))
       (apply det_new; · (intro fa ga oa K' hK; simp only [go_sem,↓reduceIte,q2,q2g,q2o,q5,q6,q7,hkw,strs,hl0,hg,h20,c3,codeC,List.length_map,elemTy] at hK ⊢; exact hK))
       (apply det_new; · (intro fa ga oa K' hK; simp only [go_sem,↓reduceIte,q2,q2g,q2o,q5,q6,q7,hkw,strs,hl0,hg,h20,c3,codeC,List.length_map,elemTy] at hK ⊢; first | exact ⟨⟨by decide,by decide⟩,hK⟩ | exact ⟨⟨by decide,by omega⟩,hK⟩ | exact ⟨Nat.le_refl _,⟨by decide,by omega⟩,hK⟩))
       iterate 10 (apply det_pure; · (intro fa ga oa K' hK; simp only [go_sem,↓reduceIte,q2,q2g,q2o,q5,q6,q7,hkw,strs,hl0,hg,h20,c3,codeC,List.length_map] at hK ⊢; exact hK))
       (apply det_new; · (intro fa ga oa K' hK; simp only [go_sem,↓reduceIte,q2,q2g,q2o,q5,q6,q7,hkw,strs,hl0,hg,h20,c3,codeC,List.length_map,elemTy] at hK ⊢; exact hK))
       (apply det_new; · (intro fa ga oa K' hK; simp only [go_sem,↓reduceIte,q2,q2g,q2o,q5,q6,q7,hkw,strs,hl0,hg,h20,c3,codeC,List.length_map,elemTy] at hK ⊢; first | exact ⟨⟨by decide,by decide⟩,hK⟩ | exact ⟨⟨by decide,by omega⟩,hK⟩ | exact ⟨Nat.le_refl _,⟨by decide,by omega⟩,hK⟩))
       iterate 2 (apply det_pure; · (intro fa ga oa K' hK; simp only [go_sem,↓reduceIte,q2,q2g,q2o,q5,q6,q7,hkw,strs,hl0,hg,h20,c3,codeC,List.length_map] at hK ⊢; exact hK))
       (apply det_store; (focus simp); (focus (intro fa ga oa K' hK; simp only [go_sem,↓reduceIte,q2,q2g,q2o,q5,q6,q7,hkw,strs,hl0,hg,h20,c3,codeC,List.length_map] at hK ⊢; exact hK)))
       iterate 2 (apply det_pure; · (intro fa ga oa K' hK; simp only [go_sem,↓reduceIte,q2,q2g,q2o,q5,q6,q7,hkw,strs,hl0,hg,h20,c3,codeC,List.length_map] at hK ⊢; exact hK))
       apply det_last
       intro K' hK'
       simp only [go_sem,↓reduceIte,q2,q2g,q2o,q5,q6,q7,hkw,strs,hl0,hg,h20,c3,codeC,List.length_map]
       refine hK' _ ?_
       clear hK' K'
       simp only [go_sem,↓reduceIte,q2,q2g,q2o,q5,q6,q7,hkw,strs,hl0,hg,h20,c3,codeC,List.length_map,buildA]
       exact ⟨_,frz_read (code:=[]) (d:=0) (n:=k + 1) (e:=4) (.d _),rfl⟩
      ·refine draw_det Tt_ok mixed [56,57,68,69,20] [([5],[0,1,2,3],[],false),([5],[0,1,2,3,4],[],false),([5],[0,2],[],false),([51],[0,2],[],false),([52],[0,2],[],false),([53],[0,2],[],false),([8],[2],[],false),([55],[2],[0],false),([54,56],[2],[1],false),([5],[0,1,2],[],false),([58],[0,1,2],[],false),([59],[0,1,2],[],false),([60],[0,1,2],[],false),([5],[0,1],[],false),([62],[0,1],[],false),([63],[0,1],[],false),([64],[0,1],[],false),([65],[0,1],[],false),([66],[0,1],[],false),([67],[0,1],[2],false),([61,68],[],[3],false),([49],[],[],false),([70],[],[],false),([71,57],[],[4],false),([50],[],[],false),([72],[],[],false),([73,69],[],[],true)] 5 (by decide +kernel) rfl (by decide) ?_
       simp only [go_sem,↓reduceIte]
       iterate 7 (apply det_pure; · (intro fa ga oa K' hK; simp only [go_sem,↓reduceIte,q2,q2g,q2o,q5,q6,q7,hkw,strs,hl0,hg,h20,c3,codeC,l57,l69,List.length_map] at hK ⊢; exact hK))
       (apply det_new; · (intro fa ga oa K' hK; simp only [go_sem,↓reduceIte,q2,q2g,q2o,q5,q6,q7,hkw,strs,hl0,hg,h20,c3,codeC,l57,l69,List.length_map,elemTy] at hK ⊢; exact hK))
       (apply det_new; · (intro fa ga oa K' hK; simp only [go_sem,↓reduceIte,q2,q2g,q2o,q5,q6,q7,hkw,strs,hl0,hg,h20,c3,codeC,l57,l69,List.length_map,elemTy] at hK ⊢; first | exact ⟨⟨by decide,by decide⟩,hK⟩ | exact ⟨⟨by decide,by omega⟩,hK⟩ | exact ⟨Nat.le_refl _,⟨by decide,by omega⟩,hK⟩))
       iterate 10 (apply det_pure; · (intro fa ga oa K' hK; simp only [go_sem,↓reduceIte,q2,q2g,q2o,q5,q6,q7,hkw,strs,hl0,hg,h20,c3,codeC,l57,l69,List.length_map] at hK ⊢; exact hK))
       (apply det_new; · (intro fa ga oa K' hK; simp only [go_sem,↓reduceIte,q2,q2g,q2o,q5,q6,q7,hkw,strs,hl0,hg,h20,c3,codeC,l57,l69,List.length_map,elemTy] at hK ⊢; exact hK))
       (apply det_new; · (intro fa ga oa K' hK; simp only [go_sem,↓reduceIte,q2,q2g,q2o,q5,q6,q7,hkw,strs,hl0,hg,h20,c3,codeC,l57,l69,List.length_map,elemTy] at hK ⊢; first | exact ⟨⟨by decide,by decide⟩,hK⟩ | exact ⟨⟨by decide,by omega⟩,hK⟩ | exact ⟨Nat.le_refl _,⟨by decide,by omega⟩,hK⟩))
       iterate 2 (apply det_pure; · (intro fa ga oa K' hK; simp only [go_sem,↓reduceIte,q2,q2g,q2o,q5,q6,q7,hkw,strs,hl0,hg,h20,c3,codeC,l57,l69,List.length_map] at hK ⊢; exact hK))
       (apply det_store; (focus simp); (focus (intro fa ga oa K' hK; simp only [go_sem,↓reduceIte,q2,q2g,q2o,q5,q6,q7,hkw,strs,hl0,hg,h20,c3,codeC,l57,l69,List.length_map] at hK ⊢; exact hK)))
       iterate 2 (apply det_pure; · (intro fa ga oa K' hK; simp only [go_sem,↓reduceIte,q2,q2g,q2o,q5,q6,q7,hkw,strs,hl0,hg,h20,c3,codeC,l57,l69,List.length_map] at hK ⊢; exact hK))
       apply det_last
       intro K' hK'
       simp only [go_sem,↓reduceIte,q2,q2g,q2o,q5,q6,q7,hkw,strs,hl0,hg,h20,c3,codeC,l57,l69,List.length_map]
       refine hK' _ ?_
       clear hK' K'
       simp only [go_sem,↓reduceIte,q2,q2g,q2o,q5,q6,q7,hkw,strs,hl0,hg,h20,c3,codeC,l57,l69,List.length_map,buildA]
       exact ⟨_,frz_read (code:=[]) (d:=0) (n:=k + 1) (e:=4) (.d _),rfl⟩
 ·have hkl:¬ (k:Int) < (ls.length:Int):=by omega
  have hfin:linesA 0 st0 ls = .inl st:=by rw [hli,List.drop_eq_nil_of_le (by omega)]; rfl
  have hr2:=fun n e=>@hr2 st n e hfin
  have hr3:=fun code=>@hr3 st code hfin
  clear hr1 hli hfin hlt
  have hlen:=hwf.len
  simp only [go_sem,↓reduceIte,q6,q7,hkl,List.length_map]
  refine loop_intro (fun nn s=>∃ (j:Nat) (code:List Nat),nn + j = st.uses.length ∧ usesA st.labs st.code st.uses = usesA st.labs code (st.uses.drop j) ∧ (∀ u ∈ st.uses.drop j,UseOk code u) ∧ code.length = st.code.length ∧
   Made gr { st with code:=code } s.gen s.obj ∧ s.f 2 = .one (.ptr 2 g2 0) ∧ s.gen 2 = g2 ∧ s.obj 2 = some [.d .nsl,.d (.int .i64 0)] ∧ s.f 5 = .one (.ptr 20 gr 0) ∧ s.f 12 = iv .i64 j) st.uses.length ?_ ?_
  ·refine ⟨0,st.code,by omega,rfl,hwf.uses,rfl,hM,?_⟩
   simp only [go_sem,↓reduceIte,q2,q2g,q2o,q5]
   try trivial
  clear q2 q2g q2o q5 q6 q7 hM
  rintro mm f g ob ⟨j,code,hj,hua,hok,hcn,hM,q2,q2g,q2o,q5,q12⟩
  simp only at hM q2 q2g q2o q5 q12
  have hM0:=hM
  obtain ⟨hg,cc,lc,pc,uc,h20,hc,hl,hu⟩:=hM
  simp only at h20 hc hl hu
  by_cases hlt:j < st.uses.length
  ·obtain ⟨u,hu'⟩:=getq hlt
   have hjl:(j:Int) < (st.uses.length:Int):=by omega
   have hj0:(0:Int) ≤ (j:Int):=by omega
   have hdr:st.uses.drop j = u :: st.uses.drop (j + 1):=by rw [List.drop_eq_getElem_cons hlt]; congr 1; exact (List.getElem?_eq_some_iff.1 hu').2
   have hune:¬ st.uses = []:=fun e=>by rw [e] at hlt; simp at hlt
   rcases hu with ⟨u1,_⟩ | ⟨u1,rfl,u3⟩
   ·exact absurd u1 hune
   have hua3:=useR_at hu'
   have hul3:=flatR_len st.uses
   have hkw:IntKind.i64.wrap ((j:Int) + 1) = ((j + 1:Nat):Int):=wrap_succ (by omega)
   rw [hdr] at hua hok
   obtain ⟨k1,k2,k3⟩:=hok u (by simp)
   have hcne:¬ code = []:=fun e=>by rw [e] at k1; simp at k1
   rcases hc with ⟨c1,_⟩ | ⟨c1,ci,hci,rfl,c3⟩
   ·exact absurd c1 hcne
   obtain ⟨un,ua,ul⟩:=u
   simp only at k1 k2 k3
   have hul2:(useR (un,ua,ul)).length = 3:=rfl
   have hjb:0 + j * 3 + 3 ≤ (st.uses.flatMap useR).length:=by omega
   simp only [go_sem,↓reduceIte,q2,q5,q12,hg,h20,u3,hjl,hj0,hua3,hul3,hul2,useR,Int.toNat_natCast]
   refine ⟨by omega,?_⟩
   refine hook_lent rfl (by simp only [go_sem,↓reduceIte,q5]; refine place_A (st:={ st with code:=code }) (hM0.of ?_ ?_) ul (show st.labs.length ≤ 1000000 by omega) <;> (intro i hi; rcases hi with rfl | rfl | rfl | rfl | rfl | rfl <;> rfl)) ?_
   rintro _ rfl
   rw [show placeI st.labs ul = (match Asm.placeOf st.labs ul with | some p=>(p:Int) | none=>-1) from rfl]
   cases hp:Asm.placeOf st.labs ul with
   | none =>
     rw [hr2 _ _ (hua.trans (usesA_bad (u:=(un,ua,ul)) hp))] at hP
     subst hP
     simp only [go_sem,↓reduceIte,q2,q5,q12,hg,h20]
     refine draw_det Tt_ok mixed [2] [([],[],[],false),([13],[0],[],false),([115],[0],[],false),([2,114],[],[0],false),([116],[],[],false),([],[],[],false)] 1 (by decide +kernel) rfl (by decide) ?_
     simp only [go_sem,↓reduceIte]
     (apply det_pure; · (intro fa ga oa K' hK; simp only [go_sem,↓reduceIte,buildA] at hK ⊢; exact hK))
     iterate 2 (apply det_pure; · (intro fa ga oa K' hK; simp only [go_sem,↓reduceIte] at hK ⊢; exact hK))
     (apply det_store; (focus simp); (focus (intro fa ga oa K' hK; simp only [go_sem,↓reduceIte,q2,q2g,q2o] at hK ⊢; exact hK)))
     iterate 2 (apply det_pure; · (intro fa ga oa K' hK; simp only [go_sem,↓reduceIte] at hK ⊢; exact hK))
     apply det_nil
     simp only [go_sem,↓reduceIte,q2,q2g]
     exact ⟨_,frz_read (code:=[]) (d:=0) (n:=un) (e:=4) (.d _),rfl⟩
   | some p =>
     obtain ⟨pl,hpm⟩:=placeOf_mem hp
     have hpl:=hwf.labs _ hpm
     simp only at hpl
     have hpi:¬ (p:Int) < 0:=by omega
     have hpw:IntKind.u32.wrap (p:Int) = (p:Int):=by rw [IntKind.wrap_u32]; omega
     have hcget:(code.map fun n=>C.d (.int .u32 (n:Nat)))[ua]? = some (.d (.int .u32 (code.getD ua 0:Nat))):=by
      rw [List.getElem?_map,List.getD_eq_getElem?_getD,List.getElem?_eq_getElem k1]; rfl
     have hadd:IntKind.u32.wrap ((code.getD ua 0:Int) + (p:Int)) = ((code.getD ua 0 + p:Nat):Int):=by rw [IntKind.wrap_u32]; omega
     have hua0:(0:Int) ≤ (ua:Int):=by omega
     have hual:(ua:Int) < (code.length:Int):=by omega
     have hset:(code.map fun n=>C.d (.int .u32 (n:Nat))).set ua (.d (.int .u32 ((code.getD ua 0 + p:Nat):Int))) = codeC (addAt code ua p):=by
      unfold addAt codeC; rw [List.map_set]
     have hne:addAt code ua p ≠ []:=fun e=>by have:=addAt_len code ua p; rw [e] at this; simp at this; omega
     have hok':∀ v ∈ st.uses.drop (j + 1),UseOk (addAt code ua p) v:=by
      intro v hv
      refine (hok v (by simp [hv])).set ?_
      have hnd:((st.uses.drop j).map (·.2.1)).Nodup:=hwf.nd.sublist ((List.drop_sublist _ _).map _)
      rw [hdr,List.map_cons,List.nodup_cons] at hnd
      exact fun e=>hnd.1 (List.mem_map.2 ⟨v,hv,e.symm⟩)
     rcases hci with rfl | rfl
     ·simp only [go_sem,↓reduceIte,q2,q5,q12,hg,h20,hpi]
      refine draw_intro (by decide +kernel) ?_
      simp only [go_sem,↓reduceIte,q2,q5,q12,hg,h20,c3,codeC,hua0,hual,hcget,hpw,hadd,setAt,Int.toNat_natCast,Nat.mul_one,Nat.zero_add,List.length_map,hkw]
      refine ⟨by omega,mm - 1,_,by omega,SemVs.refl _,j + 1,addAt code ua p,by omega,hua.trans (usesA_cons (u:=(un,ua,ul)) hp),hok',by rw [addAt_len]; exact hcn,?_⟩
      simp only [go_sem,↓reduceIte,q2,q2g,q2o,q5]
      exact ⟨by simp [upd,hg],_,lc,pc,_,h20,.inr ⟨hne,3172,.inl rfl,by simp [upd,addAt_len],congrArg some hset⟩,hl,.inr ⟨u1,by simp [upd],by simp [upd,u3]⟩⟩
     ·simp only [go_sem,↓reduceIte,q2,q5,q12,hg,h20,hpi]
      refine draw_intro (by decide +kernel) ?_
      simp only [go_sem,↓reduceIte,q2,q5,q12,hg,h20,c3,codeC,hua0,hual,hcget,hpw,hadd,setAt,Int.toNat_natCast,Nat.mul_one,Nat.zero_add,List.length_map,hkw]
      refine ⟨by omega,mm - 1,_,by omega,SemVs.refl _,j + 1,addAt code ua p,by omega,hua.trans (usesA_cons (u:=(un,ua,ul)) hp),hok',by rw [addAt_len]; exact hcn,?_⟩
      simp only [go_sem,↓reduceIte,q2,q2g,q2o,q5]
      exact ⟨by simp [upd,hg],_,lc,pc,_,h20,.inr ⟨hne,3223,.inr rfl,by simp [upd,addAt_len],congrArg some hset⟩,hl,.inr ⟨u1,by simp [upd],by simp [upd,u3]⟩⟩
  ·have hjl:¬ (j:Int) < (st.uses.length:Int):=by omega
   have hfin:usesA st.labs st.code st.uses = .inl code:=by rw [hua,List.drop_eq_nil_of_le (by omega)]; rfl
   rw [hr3 _ hfin] at hP
   subst hP
   have hj00:¬ (j:Int) < 0:=by omega
   rcases hu with ⟨u1,rfl⟩ | ⟨u1,rfl,u3⟩
   case' inl=>have u3:=u1
   all_goals
    rcases hc with ⟨c1,rfl⟩ | ⟨c1,ci,rfl | rfl,rfl,c3⟩
    ·subst c1
     simp only [go_sem,↓reduceIte,q2,q2g,q2o,q5,q12,hg,h20,hjl,hj00,u3,List.length_nil]
     exact ⟨_,frz_read (code:=[]) (n:=0) (e:=0) (.d _),rfl⟩
    all_goals
     simp only [go_sem,↓reduceIte,q2,q2g,q2o,q5,q12,hg,h20,hjl,hj00,u3,c3,List.length_nil]
     exact ⟨_,frz_read (n:=0) (e:=0) (frz_code (by simp [upd]) (by simp [upd,c3,codeC]) rfl),rfl⟩
end Go.Proofs.YtfcgadnbdcnnlabGreatDoor

namespace Go.Asm
theorem hexV_16 {c:UInt8} {v:Nat} (h:hexV c = some v):v < 16:=by
 unfold hexV at h
 split at h
 ·rename_i hd
  unfold digit at hd
  simp only [Bool.and_eq_true,decide_eq_true_eq] at hd
  cases h; omega
 ·split at h
  ·cases h; omega
  ·split at h
   ·cases h; omega
   ·cases h
theorem hexGo_16:∀ {s:Str} {n m:Nat},hexGo n s = some m → m < (n + 1) * 16 ^ s.length
 | [],n,m,h=>by unfold hexGo at h; cases h; simp
 | c :: s,n,m,h=>by
   unfold hexGo at h
   cases hv:hexV c with
   | none=>rw [hv] at h; cases h
   | some v =>
     rw [hv] at h
     have h1:=hexGo_16 (show hexGo (16 * n + v) s = some m from h)
     have h2:=hexV_16 hv
     have h3:(16 * n + v + 1) * 16 ^ s.length ≤ (16 * (n + 1)) * 16 ^ s.length:=Nat.mul_le_mul_right _ (by omega)
     have h4:(16 * (n + 1)) * 16 ^ s.length = (n + 1) * 16 ^ (s.length + 1):=by rw [Nat.pow_succ,Nat.mul_comm 16 (n + 1),Nat.mul_assoc,Nat.mul_comm 16]
     rw [List.length_cons]
     omega
theorem operand_lt32 {s:Str} {n:Nat} (h:operandA s = .num n):n < 4294967296:=by
 unfold operandA at h
 split at h
 ·cases h
 ·split at h
  ·rename_i m hm
   cases h
   unfold parseN at hm
   split at hm
   ·cases hm
   ·split at hm
    ·split at hm
     ·cases hm
     ·cases hm; omega
    ·cases hm
  ·cases h
  ·unfold restOpd at h
   split at h
   ·split at h
    ·rename_i m hm
     cases h
     unfold hexN at hm
     split at hm
     ·rename_i hl
      have:=hexGo_16 hm
      have hp:=Nat.pow_le_pow_right (n:=16) (by decide) hl.2
      have h8:(16:Nat) ^ 8 = 4294967296:=rfl
      omega
     ·cases hm
    ·cases h
   ·split at h
    ·rename_i m hm
     cases h
     unfold charOf at hm
     split at hm
     ·split at hm
      ·cases hm; exact Nat.lt_of_lt_of_le (UInt8.toNat_lt _) (by decide)
      ·cases hm
     ·cases hm
    ·split at h <;> cases h
theorem operand_le15 {s:Str} {n:Nat} (h:operandA s = .reg n):n ≤ 15:=by
 unfold operandA at h
 split at h
 ·rename_i m hm
  cases h
  unfold regOf at hm
  split at hm
  ·split at hm
   ·split at hm
    ·cases hm; assumption
    ·cases hm
   ·cases hm
  ·cases hm
 ·split at h
  ·cases h
  ·cases h
  ·unfold restOpd at h
   split at h
   ·split at h <;> cases h
   ·split at h
    ·cases h
    ·split at h <;> cases h
theorem regsOf_le:∀ {l:List Str} {rs:List Nat},regsOf l = some rs → ∀ x ∈ rs,x ≤ 15
 | [],rs,h,x,hx=>by cases h; cases hx
 | a :: l,rs,h,x,hx=>by
   unfold regsOf at h
   cases ha:regOf? a with
   | none=>rw [ha] at h; cases h
   | some n =>
     rw [ha] at h
     cases hl:regsOf l with
     | none=>rw [hl] at h; cases h
     | some ns =>
       rw [hl] at h
       cases h
       rcases List.mem_cons.1 hx with rfl | hx
       ·unfold regOf? at ha
        split at ha
        ·rename_i m hm; cases ha; exact operand_le15 hm
        ·cases ha
       ·exact regsOf_le hl x hx
def AllW (l:List Nat):Prop:=∀ w ∈ l,w < 4294967296
theorem AllW.add {st st':Sta} {w:Nat} (h:AllW st.code) (hw:w < 4294967296) (ha:addW st w = .ok st'):AllW st'.code:=by
 unfold addW at ha
 split at ha
 ·cases ha
 ·cases ha
  intro x hx
  rcases List.mem_append.1 hx with hx | hx
  ·exact h x hx
  ·rw [List.mem_singleton] at hx; subst hx; exact hw
theorem wordR_lt {op c:Nat} {rs:List Nat} (hop:op ≤ 27) (hr:∀ x ∈ rs,x ≤ 15) (hc:c ≤ 65535):wordR op rs c < 4294967296:=by
 have hx:∀ i,rs.getD i 0 ≤ 15:=fun i=>by
  rw [List.getD_eq_getElem?_getD]
  cases hi:rs[i]? with
  | none=>simp
  | some x=>simpa using hr x (List.mem_of_getElem? hi)
 have x0:=hx 0
 have x1:=hx 1
 have x2:=hx 2
 unfold wordR word
 split <;> omega
theorem AllW.ins {n op:Nat} {args:List Str} {st st':Sta} (h:AllW st.code) (hop:op ≤ 27) (ha:insA n st op args = .ok st'):AllW st'.code:=by
 unfold insA at ha
 split at ha
 ·cases ha
 ·split at ha
  ·cases ha
  ·rename_i rs hrg
   have hr:=regsOf_le hrg
   split at ha
   ·split at ha
    ·exact AllW.add (st:={ st with uses:=st.uses ++ [(n,st.code.length,args.getD (nRegs op) [])] }) h (wordR_lt hop hr (by decide)) ha
    ·split at ha
     ·cases ha
     ·exact h.add (wordR_lt hop hr (by omega)) ha
    ·cases ha
    ·cases ha
   ·exact h.add (wordR_lt hop hr (by decide)) ha
theorem AllW.dir {b:Bool} {args:List Str} {st st':Sta} (h:AllW st.code) (ha:dirA st b args = .ok st'):AllW st'.code:=by
 unfold dirA at ha
 split at ha
 ·split at ha
  ·cases ha
  ·split at ha
   ·rename_i v hv
    split at ha
    ·split at ha
     ·cases ha
     ·cases ha; exact h
    ·exact h.add (operand_lt32 hv) ha
   ·cases ha
   ·cases ha
 ·cases ha
theorem AllW.step {n:Nat} {st st':Sta} {s:Str} (h:AllW st.code) (ha:stepA n st s = .ok st'):AllW st'.code:=by
 have hop:∀ (st:Sta) (op:Str) (args:List Str),AllW st.code → opA n st op args = .ok st' → AllW st'.code:=by
  intro st op args h ha
  unfold opA at ha
  split at ha
  ·cases ha; exact h
  ·split at ha
   ·exact h.dir ha
   ·split at ha
    ·exact h.dir ha
    ·split at ha
     ·cases ha
     ·exact h.ins (opNum_le' _) ha
 unfold stepA at ha
 split at ha
 ·cases ha
 ·split at ha
  ·exact hop _ _ _ h ha
  ·split at ha
   ·cases ha
   ·refine hop _ _ _ ?_ ha
    exact h
theorem linesA_all:∀ {ls:List Str} {n:Nat} {st st':Sta},AllW st.code → WF st → linesA n st ls = .inl st' → AllW st'.code ∧ WF st'
 | [],n,st,st',h,hw,he=>by unfold linesA at he; cases he; exact ⟨h,hw⟩
 | s :: ls,n,st,st',h,hw,he=>by
   unfold linesA at he
   split at he
   ·rename_i st1 hs
    exact linesA_all (h.step hs) (hw.stepA (fun s n=>operand_le15) hs) he
   ·cases he
theorem usesA_all {labs:List (Str × Nat)} (hl:∀ p ∈ labs,p.2 < 65536):∀ {us:List (Nat × Nat × Str)} {code c':List Nat},AllW code → (∀ u ∈ us,UseOk code u) → (us.map (·.2.1)).Nodup → usesA labs code us = .inl c' → AllW c'
 | [],code,c',h,_,_,he=>by unfold usesA at he; cases he; exact h
 | u :: us,code,c',h,hu,hn,he=>by
   unfold usesA at he
   split at he
   ·cases he
   ·rename_i p hp
    obtain ⟨t,ht⟩:=placeOf_mem hp
    have hp6:=hl _ ht
    simp only at hp6
    obtain ⟨u1,u2,u3⟩:=hu u (by simp)
    rw [List.map_cons,List.nodup_cons] at hn
    refine usesA_all hl (code:=addAt code u.2.1 p) (fun w hw=>?_) (fun v hv=>(hu v (by simp [hv])).set fun e=>hn.1 ?_) hn.2 he
    ·unfold addAt at hw
     rcases List.mem_or_eq_of_mem_set hw with hw | rfl
     ·exact h w hw
     ·omega
    ·rw [e]; exact List.mem_map.2 ⟨v,hv,rfl⟩
theorem readA_words (t:Str):AllW (readA t).1.1:=by
 unfold readA
 split
 ·exact fun w hw=>by cases hw
 ·split
  ·exact fun w hw=>by cases hw
  ·rename_i st hs
   obtain ⟨h1,h2⟩:=linesA_all (fun w hw=>by cases hw) WF.zero hs
   split
   ·exact fun w hw=>by cases hw
   ·rename_i code hc
    exact usesA_all (fun p hp=>by have:=h2.labs p hp; have:=h2.len; omega) h1 h2.uses h2.nd hc
end Go.Asm

namespace Go.Proofs.YtfcgadnbdcnnlabGreatDoor
open Go Go.Am Go.Asm Go.Mach
end Go.Proofs.YtfcgadnbdcnnlabGreatDoor

namespace Go.Proofs.YtfcgadnbdcnnlabGreatDoor
open Go Go.Am Go.Asm Go.Mach
theorem putI_putB (m:List Nat × Nat):putI m = putB m:=by
 have h:bytesW = bytes4:=by funext w; rfl
 unfold putI putB bytesL
 rw [h]
theorem runT2_asm (img t:Str):runT2 ⟨5,(0,0,0,0),[],zeros 1,0⟩ img [t] = asmT t:=by
 have hr:rightR ⟨5,(0,0,0,0),[],zeros 1,0⟩ = true:=by decide
 unfold runT2
 rw [if_neg (by rw [hr]; simp [zeros]),if_neg (show ¬ (5:Int) = 1 by decide),if_neg (show ¬ (5:Int) = 4 by decide),if_pos rfl]
 rfl
theorem runT2_img (f n:Nat) (b:Str) (ins:List Str) (h:ins.length = n) (hn:n ≤ 20) (hf:f ≤ 100000):runT2 ⟨1,(0,0,0,0),[],zeros n,(f:Int)⟩ b ins = playT b ins.flatten f:=by
 have hz:(zeros n).length = n:=by simp [zeros]
 have hr:rightR ⟨1,(0,0,0,0),[],zeros n,(f:Int)⟩ = true:=by
  unfold rightR
  rw [hz]
  simp [hn]
  omega
 unfold runT2
 rw [if_neg (by rw [hr,hz]; simp [h]),if_pos rfl]
 rw [show ((f:Int)).toNat = f by omega]
theorem play_made (t inp:Str) (n:Nat):playT (putI (readA t).1) inp n = if (resM okI (readA t).1.1 (readA t).1.2 inp n).1 = 1 then ((resM okI (readA t).1.1 (readA t).1.2 inp n).2.1,0) else ([],12):=by
 unfold playT bytesRun
 rw [putI_putB,imgRead_putB (readA_right t).1 (readA_right t).2 (readA_words t)]
 rfl
theorem resM_more {code:List Nat} {d n:Nat} {inp:Str} (k:Nat) (h:(resM okI code d inp n).1 = 1):resM okI code d inp (n + k) = resM okI code d inp n:=by
 unfold resM at h ⊢
 simp only at h ⊢
 have hf:(runM okI code inp n (Mach.start d)).fin ≠ 0:=by
  intro h0
  rw [if_pos h0] at h
  cases h
 rw [runM_more k hf]
end Go.Proofs.YtfcgadnbdcnnlabGreatDoor

namespace Go.Proofs.YtfcgadnbdcnnlabGreatDoor
open Go Go.Am Go.Asm Go.Mach
set_option maxRecDepth 20000 in
set_option maxHeartbeats 16000000 in
theorem ToolMade_G {o:Hold} (ho:SmallO o) (t:Str) (ins:List Str) (fu:Nat) (hfu:fu < 65536) (hins:∀ s ∈ ins,s.length ≤ 140737488351232) :
  PureG Tryz.prog 0 o 3 [sv t,.one (.d (strs ins)),iv .u16 fu] (· = bv true):=by
 refine pure_of_wpG2 0 0 o Tt_ok mixed Tryz.func3 rfl (by rfl) [.tmp 6] rfl (by kernel_rfl) (by kernel_rfl) (by simp [Tryz.ntmps3]) fun b₀ β0 s0 w0 g=>?_
 have hG:=Great_A ins 200 (by decide) (by decide) hins
 have hlen:((ins.map fun w=>[D.str w]).length:Int) = (ins.length:Int):=by rw [List.length_map]
 by_cases ht:(600:Int) < (t.length:Int)
 ·unfold strs
  simp only [go_sem,↓reduceIte,ht]
  refine hook_callG kept_phiG (fun s β ds w h=>h.1.2) rfl (by simp only [go_sem,↓reduceIte]; exact awake_G ho) (by simp only [go_sem,↓reduceIte]; rfl) ?_
  rintro _ rfl
  simp only [go_sem,↓reduceIte]
 have hrd:=RefRead_A t (by omega)
 obtain ⟨q1,q2⟩:=readA_right t
 have q3:=readA_words t
 have hpl:=fun n=>play_made t ins.flatten n
 have hP1:=runT2_asm [] t
 unfold asmT at hP1
 generalize hb:putI (readA t).1 = b at hpl hP1
 have hbl:b.length ≤ 1000000000:=by
  rw [← hb,putI_putB]
  unfold putB
  simp only [List.length_append,bytes4_len,List.length_cons,List.length_nil]
  omega
 obtain ⟨code,d,ln,e,hRe⟩:∃ code d ln e,readA t = ((code,d),ln,e):=⟨_,_,_,_,rfl⟩
 rw [hRe] at hrd q1 q2 q3 hpl hP1
 simp only at q1 q2 q3 hpl hP1
 unfold readV imgV at hrd
 simp only at hrd
 have hA:=awake_G ho
 have hZ:=fun n h=>zero_A n h
 have hJ:=JoinR_A ins
 have hE:=fun n h=>ExecR_A code d ins.flatten n (by omega) q3 q2 h
 have hgs:greatL ins 200 = false → ins.length ≤ 30 ∧ ins.flatten.length ≤ 200:=fun h=>greatL_small (b:=200) h
 unfold strs at hG hJ ⊢
 unfold imgV at hE
 simp only [go_sem,↓reduceIte,ht]
 refine hook_callF kept_phiG rfl (by simp only [go_sem,↓reduceIte]; exact hG) (by simp only [go_sem,↓reduceIte]; rfl) ?_
 rintro _ rfl
 cases hg:greatL ins 200
 case true =>
  simp only [go_sem,↓reduceIte]
  refine hook_callG kept_phiG (fun s β ds w h=>h.1.2) rfl (by simp only [go_sem,↓reduceIte]; exact hA) (by simp only [go_sem,↓reduceIte]; rfl) ?_
  rintro _ rfl
  simp only [go_sem,↓reduceIte]
 obtain ⟨hi1,hi2⟩:=hgs hg
 by_cases hn:(20:Int) < (ins.length:Int)
 ·simp only [go_sem,↓reduceIte,List.length_map,hn]
  refine hook_callG kept_phiG (fun s β ds w h=>h.1.2) rfl (by simp only [go_sem,↓reduceIte]; exact hA) (by simp only [go_sem,↓reduceIte]; rfl) ?_
  rintro _ rfl
  simp only [go_sem,↓reduceIte]
 simp only [go_sem,↓reduceIte,List.length_map,hn]
 refine hook_callF kept_phiG rfl (by simp only [go_sem,↓reduceIte]; exact hZ 1 (by decide)) (by simp only [go_sem,↓reduceIte]; rfl) ?_
 rintro _ rfl
 simp only [go_sem,↓reduceIte,buildA]
 refine hook_viewG kept_phiG (fun s β ds w h=>h.1.2) rfl (xs:=[recV ⟨5,(0,0,0,0),[],zeros 1,0⟩,sv [],.one (.d (strs [t]))]) ?_ (Run_G2 ho ⟨5,(0,0,0,0),[],zeros 1,0⟩ [] [t] (by decide) (by decide) (by show 1 ≤ 1000000; decide) (by simp; omega) (by decide) (by decide)) (by rintro _ rfl; rfl) ?_
 ·simp only [go_sem,↓reduceIte]
  exact frzVs3 (frz_rec (.d .nsl) (.d _)) (frz1 _) (frzOne (frz_strs' rfl rfl rfl))
 rintro _ rfl
 rw [hP1]
 by_cases he:e = 0
 case neg =>
  have hei:¬ (e:Int) = 0:=by omega
  rw [if_neg he]
  simp only [go_sem,↓reduceIte,tw]
  refine hook_callF kept_phiG rfl (by simp only [go_sem,↓reduceIte]; exact hrd) (by simp only [go_sem,↓reduceIte]; rfl) ?_
  rintro _ rfl
  simp only [go_sem,↓reduceIte,hei]
  refine hook_callG kept_phiG (fun s β ds w h=>h.1.2) rfl (by simp only [go_sem,↓reduceIte]; exact hA) (by simp only [go_sem,↓reduceIte]; rfl) ?_
  rintro _ rfl
  simp only [go_sem,↓reduceIte]
 subst he
 rw [if_pos rfl]
 have w1:IntKind.i64.wrap ((fu:Nat):Int) = ((fu:Nat):Int):=by rw [wrap_i64] <;> omega
 have w2:((fu:Nat):Int).tmod 1000 = ((fu % 1000:Nat):Int):=rfl
 have w3:IntKind.i64.wrap ((fu % 1000:Nat):Int) = ((fu % 1000:Nat):Int):=by rw [wrap_i64] <;> omega
 have hm:fu % 1000 < 1000:=Nat.mod_lt _ (by decide)
 generalize fu % 1000 = n at w2 w3 hm
 have w4:IntKind.i64.wrap ((n:Int) + 1000) = ((n + 1000:Nat):Int):=by rw [wrap_i64] <;> omega
 simp only [go_sem,↓reduceIte,tw]
 refine hook_callF kept_phiG rfl (by simp only [go_sem,↓reduceIte]; exact hrd) (by simp only [go_sem,↓reduceIte]; rfl) ?_
 rintro _ rfl
 simp only [go_sem,↓reduceIte,w1,w2,w3,List.length_map]
 refine hook_callF kept_phiG rfl (by simp only [go_sem,↓reduceIte]; exact hZ ins.length (by omega)) (by simp only [go_sem,↓reduceIte]; rfl) ?_
 rintro _ rfl
 simp only [go_sem,↓reduceIte,buildA]
 refine hook_viewG kept_phiG (fun s β ds w h=>h.1.2) rfl (xs:=[recV ⟨1,(0,0,0,0),[],zeros ins.length,(n:Int)⟩,sv b,.one (.d (strs ins))]) ?_ (Run_G2 ho ⟨1,(0,0,0,0),[],zeros ins.length,(n:Int)⟩ b ins (by show 0 ≤ 1000000000; decide) (by simp [zeros]; omega) (by omega) (by omega) (by show (1:Int) ≠ 2 ∧ (1:Int) ≠ 3; decide) hbl) (by rintro _ rfl; rfl) ?_
 ·simp only [go_sem,↓reduceIte]
  exact frzVs3 (frz_rec (.d .nsl) (.d _)) (frz1 _) (frz1 _)
 rintro _ rfl
 rw [runT2_img n ins.length b ins rfl (by omega) (by omega),hpl n]
 have hE1:=hE n (by omega)
 have hmore:=fun h=>resM_more (code:=code) (d:=d) (n:=n) (inp:=ins.flatten) 1000 h
 obtain ⟨x,y,z,hxyz⟩:∃ x y z,resM okI code d ins.flatten n = (x,y,z):=⟨_,_,_,rfl⟩
 rw [hxyz] at hE1 hmore ⊢
 unfold resR at hE1
 simp only at hE1 hmore ⊢
 have hJ1:=hJ (by omega) (by omega)
 by_cases hx:x = 1
 case neg =>
  have hxi:¬ (x:Int) = 1:=by omega
  rw [if_neg hx]
  simp only [go_sem,↓reduceIte,tw]
  refine draw_detF (B:=0) Tt_ok mixed kept_phiG [15] [([9],[0],[],false),([1],[0],[],false),([68],[0],[],false),([12],[0],[],false),([67,69,70],[0],[],false),([],[],[0],false),([15,71],[],[],true)] 1 rfl (by decide +kernel) rfl (by decide) ?_
  simp only [go_sem,↓reduceIte]
  iterate 2 (apply det_pure; · (intro fa ga oa K' hK; simp only [go_sem,↓reduceIte] at hK ⊢; exact hK))
  refine det_pure (v:=sv ins.flatten) (fun fa ga oa K' hK=>?_) ?_
  ·simp only [go_sem,↓reduceIte] at hK ⊢
   refine hook_call (k:=bx K') rfl (by simp only [go_sem,↓reduceIte]; exact hJ1) (by simp only [go_sem,↓reduceIte]; rfl) ?_
   rintro _ rfl
   simp only [go_sem,↓reduceIte]
   exact hK
  (apply det_pure; · (intro fa ga oa K' hK; simp only [go_sem,↓reduceIte] at hK ⊢; exact hK))
  refine det_pure (v:=.agg [.d (.int .i64 (x:Int)),.d (.str y),.d (.int .i64 (z:Int))]) (fun fa ga oa K' hK=>?_) ?_
  ·simp only [go_sem,↓reduceIte] at hK ⊢
   refine hook_call (k:=bx K') rfl (by simp only [go_sem,↓reduceIte]; exact hE1) (by simp only [go_sem,↓reduceIte]; rfl) ?_
   rintro _ rfl
   simp only [go_sem,↓reduceIte]
   exact hK
  (apply det_new; · (intro fa ga oa K' hK; simp only [go_sem,↓reduceIte] at hK ⊢; exact hK))
  apply det_last
  intro K' hK'
  simp only [go_sem,↓reduceIte]
  refine hK' _ ?_
  clear hK' K'
  simp only [go_sem,↓reduceIte,hxi]
  refine hook_callG kept_phiG (fun s β ds w h=>h.1.2) rfl (by simp only [go_sem,↓reduceIte]; exact hA) (by simp only [go_sem,↓reduceIte]; rfl) ?_
  rintro _ rfl
  simp only [go_sem,↓reduceIte]
 subst hx
 rw [if_pos rfl]
 simp only [go_sem,↓reduceIte,tw]
 refine draw_detF (B:=0) Tt_ok mixed kept_phiG [15] [([9],[0],[],false),([1],[0],[],false),([68],[0],[],false),([12],[0],[],false),([67,69,70],[0],[],false),([],[],[0],false),([15,71],[],[],true)] 1 rfl (by decide +kernel) rfl (by decide) ?_
 simp only [go_sem,↓reduceIte]
 iterate 2 (apply det_pure; · (intro fa ga oa K' hK; simp only [go_sem,↓reduceIte] at hK ⊢; exact hK))
 refine det_pure (v:=sv ins.flatten) (fun fa ga oa K' hK=>?_) ?_
 ·simp only [go_sem,↓reduceIte] at hK ⊢
  refine hook_call (k:=bx K') rfl (by simp only [go_sem,↓reduceIte]; exact hJ1) (by simp only [go_sem,↓reduceIte]; rfl) ?_
  rintro _ rfl
  simp only [go_sem,↓reduceIte]
  exact hK
 (apply det_pure; · (intro fa ga oa K' hK; simp only [go_sem,↓reduceIte] at hK ⊢; exact hK))
 refine det_pure (v:=.agg [.d (.int .i64 ((1:Nat):Int)),.d (.str y),.d (.int .i64 (z:Int))]) (fun fa ga oa K' hK=>?_) ?_
 ·simp only [go_sem,↓reduceIte] at hK ⊢
  refine hook_call (k:=bx K') rfl (by simp only [go_sem,↓reduceIte]; exact hE1) (by simp only [go_sem,↓reduceIte]; rfl) ?_
  rintro _ rfl
  simp only [go_sem,↓reduceIte]
  exact hK
 (apply det_new; · (intro fa ga oa K' hK; simp only [go_sem,↓reduceIte] at hK ⊢; exact hK))
 apply det_last
 intro K' hK'
 simp only [go_sem,↓reduceIte]
 refine hK' _ ?_
 clear hK' K'
 simp only [go_sem,↓reduceIte,List.length_map]
 refine hook_callF kept_phiG rfl (by simp only [go_sem,↓reduceIte]; exact hZ ins.length (by omega)) (by simp only [go_sem,↓reduceIte]; rfl) ?_
 rintro _ rfl
 simp only [go_sem,↓reduceIte,w4,buildA]
 refine hook_viewG kept_phiG (fun s β ds w h=>h.1.2) rfl (xs:=[recV ⟨1,(0,0,0,0),[],zeros ins.length,((n + 1000:Nat):Int)⟩,sv b,.one (.d (strs ins))]) ?_ (Run_G2 ho ⟨1,(0,0,0,0),[],zeros ins.length,((n + 1000:Nat):Int)⟩ b ins (by show 0 ≤ 1000000000; decide) (by simp [zeros]; omega) (by omega) (by omega) (by show (1:Int) ≠ 2 ∧ (1:Int) ≠ 3; decide) hbl) (by rintro _ rfl; rfl) ?_
 ·simp only [go_sem,↓reduceIte]
  exact frzVs3 (frz_rec (.d .nsl) (.d _)) (frz1 _) (frz1 _)
 rintro _ rfl
 rw [runT2_img (n + 1000) ins.length b ins rfl (by omega) (by omega),hpl (n + 1000),hmore rfl]
 simp only [if_true]
 simp only [go_sem,↓reduceIte,tw]
 refine hook_callG kept_phiG (fun s β ds w h=>h.1.2) rfl (by simp only [go_sem,↓reduceIte]; exact hA) (by simp only [go_sem,↓reduceIte]; rfl) ?_
 rintro _ rfl
 simp only [go_sem,↓reduceIte]
end Go.Proofs.YtfcgadnbdcnnlabGreatDoor

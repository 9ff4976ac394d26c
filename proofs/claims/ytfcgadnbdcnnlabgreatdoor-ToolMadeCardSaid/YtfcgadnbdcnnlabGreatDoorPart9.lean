/- A part of the proof; no conditions. -/
import Derived.Test.YtfcgadnbdcnnlabGreatDoorPart8
set_option linter.unusedSimpArgs false
set_option linter.unusedVariables false
namespace Go.Proofs.YtfcgadnbdcnnlabGreatDoor
open Go Go.Am Go.Asm Go.Mach
set_option maxHeartbeats 4000000 in
theorem steps_R (gr fuel:Nat) (g:Nat → Nat) (ob:Obs):FunR Tryz.prog 124 [.one (.ptr 3012 gr 0),iv .i64 fuel] g ob (fun r g' ob'=>r = .one (.clo 181 [.ptr 2003 (g' 2003) 0,.ptr 2002 (g' 2002) 0]) ∧ ob' 2003 = some [.d (.int .i64 fuel)] ∧ ob' 2002 = some [.ptr 3012 gr 0] ∧ ∀ i,i ≠ 2002 → i ≠ 2003 → g' i = g i ∧ ob' i = ob i):=by
 refine fun_of_wp 2000 Tt_ok mixed Tryz.func124 rfl (by rfl) [4] rfl (by kernel_rfl) (by simp [Tryz.ntmps124]) ?_
 simp only [go_sem,↓reduceIte,makeFuncA,pcsOf,pcOf]
 refine retF_of (.inl rfl) ⟨by simp [resAV,upd],by simp [upd],by simp [upd],fun i h1 h2=>by simp [upd,h1,h2]⟩
def ownS (id:Nat):Prop:=3000 ≤ id ∨ id = 2002 ∨ id = 2003
set_option maxHeartbeats 16000000 in
theorem stepsIt {gr h2 h3 fuel:Nat} {code:List Nat} {inp:Str} {m0:M} {own:Bool} {g:Nat → Nat} {ob:Obs} (hcw:∀ x ∈ code,x < 4294967296) (hg9:Mach.Good m0) (hml:m0.mem.length ≤ 1000000) (hst:m0.steps = 0) (hrd:m0.rd = 0) (hfu:fuel ≤ 500000000000)
  (e3:g 2003 = h3) (o3:ob 2003 = some [.d (.int .i64 fuel)]) (e2:g 2002 = h2) (o2:ob 2002 = some [.ptr 3012 gr 0]) (hR:Rn gr code inp m0 own g ob) :
  IterR Tryz.prog 181 ([PC.ptr 2003 h3 0,PC.ptr 2002 h2 0].map pcAV) ownS (fun x:Nat=>[iv .i64 (x:Nat)]) g ob (doneL okI code inp fuel m0) (fun g' ob'=>∃ own',Rn gr code inp (runM okI code inp fuel m0) own' g' ob'):=by
 refine iter_of_wp2 2500 Tt_ok mixed Tryz.func181 rfl (by rfl) rfl (by kernel_rfl) (by kernel_rfl) (by simp [Tryz.ntmps181]) ?_
 intro b₀ Φ l J Jx hΦ hJ hJx hY h0
 simp only [List.map_cons,List.map_nil,pcAV]
 simp only [go_sem,↓reduceIte]
 refine loop_introF (fun n st=>∃ (made k:Nat) (m:M) (own':Bool),n + made = fuel ∧ runM okI code inp fuel m0 = runM okI code inp n m ∧ (doneL okI code inp fuel m0).drop k = doneL okI code inp n m ∧ k ≤ (doneL okI code inp fuel m0).length ∧ J k st.gen st.obj ∧ Rn gr code inp m own' st.gen st.obj ∧ Mach.Good m ∧ m.mem.length ≤ 1000000 ∧ m.steps ≤ made ∧ m.rd ≤ made ∧
  st.f 0 = .one (.d (.yld l)) ∧ st.f 1 = .one (.ptr 2003 h3 0) ∧ st.f 2 = .one (.ptr 2002 h2 0) ∧ st.f 4 = iv .i64 (made:Nat) ∧ st.gen 2003 = h3 ∧ st.obj 2003 = some [.d (.int .i64 fuel)] ∧ st.gen 2002 = h2 ∧ st.obj 2002 = some [.ptr 3012 gr 0]) fuel ?_ ?_
 ·refine ⟨0,0,m0,own,rfl,rfl,rfl,Nat.zero_le _,h0,hR,hg9,hml,by omega,by omega,?_⟩
  simp only [go_sem,↓reduceIte]
  exact ⟨e3,o3,e2,o2⟩
 clear h0 hR e3 o3 e2 o2
 rintro n f g ob ⟨made,k,m,own',hn,hrun,hdr,hkl,hJk,hR,hg9,hml,hst,hrd,q0,q1,q2,q4,e3,o3,e2,o2⟩
 simp only at hJk hR q0 q1 q2 q4 e3 o3 e2 o2
 have hws:=wrap_succ (k:=made) (by omega)
 by_cases hlt:made < fuel
 case neg =>
  have hlti:¬ (made:Int) < (fuel:Int):=by omega
  have hn0:n = 0:=by omega
  subst hn0
  simp only [go_sem,↓reduceIte,q0,q1,q2,q4,e3,o3,hlti]
  have hk:k = (doneL okI code inp fuel m0).length:=by
   have:=congrArg List.length hdr
   rw [List.length_drop] at this
   simp only [doneL,List.length_nil] at this
   omega
  exact ⟨_,SemVs.refl _,.inl ⟨by rw [← hk]; exact hJk,own',by rw [hrun]; exact hR⟩⟩
 have hlti:(made:Int) < (fuel:Int):=by omega
 obtain ⟨n',rfl⟩:∃ n',n = n' + 1:=⟨n - 1,by omega⟩
 simp only [go_sem,↓reduceIte,q0,q1,q2,q4,e3,o3,e2,o2,hlti]
 refine hook_funF hΦ rfl (by simp only [go_sem,↓reduceIte,o2]; exact Going_R hR) ?_
 rintro _ g1 ob1 ⟨rfl,rfl,rfl⟩
 by_cases hf:m.fin = 0
 case neg =>
  simp only [go_sem,↓reduceIte,hf]
  have hk:k = (doneL okI code inp fuel m0).length:=by
   have:=congrArg List.length hdr
   rw [List.length_drop,doneL_end hf] at this
   simp only [List.length_nil] at this
   omega
  exact ⟨_,SemVs.refl _,.inl ⟨by rw [← hk]; exact hJk,own',by rw [hrun,runM_end hf]; exact hR⟩⟩
 simp only [go_sem,↓reduceIte,hf,q2,e2,o2]
 refine hook_funF hΦ rfl (by simp only [go_sem,↓reduceIte,o2]; exact PC_R hR) ?_
 rintro _ g2 ob2 ⟨rfl,rfl,rfl⟩
 simp only [go_sem,↓reduceIte,q2,e2,o2]
 refine hook_funF hΦ rfl (by simp only [go_sem,↓reduceIte,o2]; exact Step_R hR hcw hg9 hml (by omega) (by omega) hf) ?_
 rintro r g' ob' ⟨f1,rfl,own2,f2⟩
 obtain ⟨n1,n2,n3⟩:=near_step (okI:=okI) (code:=code) (inp:=inp) m
 have hg10:=good_step (okI:=okI) (inp:=inp) hg9 hcw
 have hJ2:J k g' ob':=hJ _ _ _ _ _ hJk fun id hid=>f1 id (by unfold ownS at hid; omega)
 have e3':g' 2003 = h3:=by rw [(f1 2003 (by decide)).1]; exact e3
 have e2':g' 2002 = h2:=by rw [(f1 2002 (by decide)).1]; exact e2
 have o3':ob' 2003 = some [.d (.int .i64 fuel)]:=by rw [(f1 2003 (by decide)).2]; exact o3
 have o2':ob' 2002 = some [.ptr 3012 gr 0]:=by rw [(f1 2002 (by decide)).2]; exact o2
 by_cases hpc:m.pc < code.length
 ·have hx:(doneL okI code inp fuel m0)[k]? = some m.pc:=by
   have:=congrArg (fun l=>l[0]?) hdr
   simp only [List.getElem?_drop,Nat.add_zero] at this
   rw [this,doneL_next hf hpc]
   rfl
  have hdr2:(doneL okI code inp fuel m0).drop (k + 1) = doneL okI code inp n' (stepM okI code inp m):=by
   rw [← List.drop_drop,hdr,doneL_next hf hpc]; rfl
  have hkl2:=(List.getElem?_eq_some_iff.1 hx).1
  simp only [go_sem,↓reduceIte,hpc,q0]
  refine hook_yield (l:=l) rfl (by simp only [go_sem,↓reduceIte,q0]) hΦ (by simp only [go_sem,↓reduceIte,q0]; exact hY k m.pc g' ob' hx hJ2) ?_
  rintro r g3 ob3 ⟨hsame,⟨rfl,hJ3⟩ | ⟨rfl,hJx3⟩⟩
  ·simp only [go_sem,↓reduceIte,q4,hws]
   have hs:=fun id (h:ownS id)=>hsame id h
   refine round_endF n' (by omega) ⟨made + 1,k + 1,stepM okI code inp m,own2,by omega,by rw [hrun,runM_next hf],hdr2,hkl2,hJ3,f2.of (fun i hi=>(hs i (by unfold ownS; omega)).1) (fun i hi=>(hs i (by unfold ownS; omega)).2),hg10,by omega,by omega,by omega,?_⟩
   simp only [go_sem,↓reduceIte,q0,q1,q2]
   exact ⟨by rw [(hs 2003 (by unfold ownS; omega)).1]; exact e3',by rw [(hs 2003 (by unfold ownS; omega)).2]; exact o3',by rw [(hs 2002 (by unfold ownS; omega)).1]; exact e2',by rw [(hs 2002 (by unfold ownS; omega)).2]; exact o2'⟩
  ·simp only [go_sem,↓reduceIte]
   exact ⟨_,SemVs.refl _,.inr hJx3⟩
 ·simp only [go_sem,↓reduceIte,hpc,q4,hws]
  obtain ⟨d1,d2⟩:=doneL_out (okI:=okI) (inp:=inp) (n:=n') hf hpc
  refine round_endF n' (by omega) ⟨made + 1,k,stepM okI code inp m,own2,by omega,by rw [hrun,runM_next hf],by rw [hdr,d1,d2],hkl,hJ2,f2,hg10,by omega,by omega,by omega,?_⟩
  simp only [go_sem,↓reduceIte,q0,q1,q2]
  exact ⟨e3',o3',e2',o2'⟩
set_option maxHeartbeats 16000000 in
theorem Go_A (code:List Nat) (d:Nat) (inp:Str) (fuel:Nat) (hcw:∀ x ∈ code,x < 4294967296) (hd:d ≤ 32768) (hfu:fuel ≤ 500000000000) :
  PureR Tryz.prog 81 [imgV (code,d),sv inp,stV (Mach.start d),iv .i64 fuel] (· = stV (runM okI code inp fuel (Mach.start d))):=by
 refine pure_of_wpRF2 0 Tt_ok mixed Tryz.func81 rfl (by rfl) [.cell 8 69] rfl (by kernel_rfl) (by kernel_rfl) (by simp [Tryz.ntmps81]) fun b₀ β0 s0 w0 g=>?_
 have hN:=New_R code d inp
 unfold imgV at hN ⊢
 have hSl:stV (Mach.start d) = .agg ((stD (Mach.start d)).map .d):=rfl
 have hT22:List.take 22 (List.map C.d (stD (Mach.start d))) = List.map C.d (stD (Mach.start d)):=List.take_of_length_le (by simp [stD,Mach.start])
 rw [hSl] at hN ⊢
 simp only [go_sem,↓reduceIte,hT22]
 refine ⟨by simp [stD,Mach.start],?_⟩
 refine hook_funF kept_phiC rfl (by simp only [go_sem,↓reduceIte,hT22]; exact hN _ _) ?_
 rintro _ g1 ob1 ⟨f1,rfl,hR⟩
 have e8:g1 8 = nxC 70 (g 8):=by rw [(f1 8 (by decide)).1]; simp [upd]
 have o8:=(f1 8 (by decide)).2
 simp only [upd] at o8
 simp only [go_sem,↓reduceIte]
 refine hook_funF kept_phiC rfl (by simp only [go_sem,↓reduceIte]; exact steps_R (g1 3012) fuel _ _) ?_
 rintro _ g2 ob2 ⟨rfl,o3,o2,hs⟩
 have hR2:Rn (g1 3012) code inp (Mach.start d) false g2 ob2:=hR.of (fun i hi=>(hs i (by omega) (by omega)).1) (fun i hi=>(hs i (by omega) (by omega)).2)
 have e8':g2 8 = nxC 70 (g 8):=by rw [(hs 8 (by decide) (by decide)).1]; exact e8
 have o8':=(hs 8 (by decide) (by decide)).2.trans o8
 generalize g1 3012 = gr at hR2 o2 ⊢
 clear hR e8 o8 hs f1
 simp only [go_sem,↓reduceIte]
 refine hook_range (Fin:=fun g' ob'=>∃ own',Rn gr code inp (runM okI code inp fuel (Mach.start d)) own' g' ob') Tt_ok (fid:=181) (caps:=[.ptr 2003 (g2 2003) 0,.ptr 2002 (g2 2002) 0]) (by simp only [go_sem,↓reduceIte]) 1400 (fun id=>id = 1400 ∨ ownS id) ownS (.inl rfl) (by unfold ownS; omega) (fun id h=>.inr h) (fun x:Nat=>[iv .i64 (x:Nat)]) (doneL okI code inp fuel (Mach.start d)) (fun x=>rfl) (by kernel_rfl) (by kernel_rfl)
  (fun g' ob' h=>stepsIt hcw (good_start d) (by show (List.replicate d 0).length ≤ _; rw [List.length_replicate]; omega) rfl rfl hfu (h 2003 (by decide)).1 ((h 2003 (by decide)).2.trans o3) (h 2002 (by decide)).1 ((h 2002 (by decide)).2.trans o2) (hR2.of (fun i hi=>(h i (by omega)).1) (fun i hi=>(h i (by omega)).2)))
  (fun g' ob' g'' ob'' hf h=>by obtain ⟨own',hf⟩:=hf; exact ⟨own',hf.of (fun i hi=>(h i (by omega)).1) (fun i hi=>(h i (by omega)).2)⟩)
  (fun _ g' ob'=>g' 8 = g2 8 ∧ ob' 8 = ob2 8) (fun _ _=>False) ?_ ?_ ?_ ?_ ?_ ?_
 ·rintro k g' ob' g'' ob'' ⟨h1,h2⟩ h
  have:=h 8 (by unfold ownS; omega)
  exact ⟨this.1.trans h1,this.2.trans h2⟩
 ·exact fun _ _ _ _ h _=>h
 ·exact ⟨rfl,rfl⟩
 ·rintro k x g' ob' hx ⟨h1,h2⟩ l Φ hΦ
  simp only [go_sem,↓reduceIte]
  exact fun _ _=>⟨h1,h2⟩
 ·rintro g' ob' ⟨h1,h2⟩ ⟨own',hF⟩
  have hgood:=good_run (okI:=okI) (inp:=inp) hcw (n:=fuel) (good_start d)
  generalize runM okI code inp fuel (Mach.start d) = M at hF hgood ⊢
  simp only [go_sem,↓reduceIte]
  refine hook_funF kept_phiC rfl (by simp only [go_sem,↓reduceIte]; exact State_R hF hgood.out) ?_
  rintro _ g3 ob3 ⟨f3,e31,o31,mc,rfl,hm⟩
  have e8:g3 8 = nxC 70 (g 8):=by rw [(f3 8 (by decide)).1,h1,e8']
  have o8:=((f3 8 (by decide)).2.trans h2).trans o8'
  simp only [if_true] at o8
  have hSL:=stC_len hgood.len mc
  have hT:(stC M mc).take 22 = stC M mc:=List.take_of_length_le (by omega)
  simp only [go_sem,↓reduceIte,e8,o8,hSL]
  rw [setAt_all (by rw [hSL]; rfl)]
  refine ⟨by omega,?_⟩
  rw [hT]
  refine ⟨_,frz_state (m:=M) ?_ rfl,rfl⟩
  rcases hm with ⟨_,rfl⟩ | ⟨_,hne,rfl,hmo⟩
  ·exact .d _
  ·exact frz_code (by simp only; exact e31) (by simp only [upd]; rw [if_neg (by decide),o31]; exact hmo) rfl
 ·exact fun _ _ h=>h.elim
def resR (r:Nat × Str × Nat):AV:=.agg [.d (.int .i64 (r.1:Nat)),.d (.str r.2.1),.d (.int .i64 (r.2.2:Nat))]
theorem frz_r3 {s:St} {a c:Int} {b:Str}:FrzV s (.agg [.d (.int .i64 a),.d (.str b),.d (.int .i64 c)]) (.agg [.d (.int .i64 a),.d (.str b),.d (.int .i64 c)]):=by
 refine ⟨[.int .i64 a,.str b,.int .i64 c],rfl,fun i c hc'=>?_,rfl⟩
 match i,hc' with
 | 0,hc'=>cases hc'; exact ⟨_,rfl,.d _⟩
 | 1,hc'=>cases hc'; exact ⟨_,rfl,.d _⟩
 | 2,hc'=>cases hc'; exact ⟨_,rfl,.d _⟩
set_option maxHeartbeats 16000000 in
theorem Run_A (code:List Nat) (d:Nat) (inp:Str) (fuel:Nat) (hcw:∀ x ∈ code,x < 4294967296) (hd:d ≤ 32768) (hfu:fuel ≤ 500000000000) :
  PureR Tryz.prog 50 [imgV (code,d),sv inp,iv .i64 fuel] (· = resR (resM okI code d inp fuel)):=by
 refine pure_of_wpR Tt_ok mixed Tryz.func50 rfl (by rfl) [.cell 6 43] rfl (by kernel_rfl) (by simp [Tryz.ntmps50]) fun g=>?_
 have h1:=Start_A code d hd
 have h2:=Go_A code d inp fuel hcw hd hfu
 have hgood:=good_run (okI:=okI) (inp:=inp) hcw (n:=fuel) (good_start d)
 unfold resM
 generalize runM okI code inp fuel (Mach.start d) = M at h2 hgood ⊢
 unfold imgV at h1 h2 ⊢
 have hl22:((stD M).map C.d).length = 22:=by simp [stD,hgood.len]
 have hg:∀ k,k < 5 → ((stD M).map C.d)[17 + k]? = ([.d (wordsD M.mem),.d (.int .i64 (M.rd:Nat)),.d (.str M.out),.d (.int .i64 (M.steps:Nat)),.d (.int .i64 (M.fin:Nat))]:List C)[k]?:=fun k hk=>by
  have hA:(stD M).map C.d = ((.int .i64 (M.pc:Nat) :: M.reg.map fun x=>D.int .u32 (x:Nat)):List D).map C.d ++ [.d (wordsD M.mem),.d (.int .i64 (M.rd:Nat)),.d (.str M.out),.d (.int .i64 (M.steps:Nat)),.d (.int .i64 (M.fin:Nat))]:=by
   unfold stD
   rw [List.map_append]
   rfl
  rw [hA,List.getElem?_append_right (by simp [hgood.len])]
  simp only [List.length_map,List.length_cons,hgood.len]
  rw [show 17 + k - (16 + 1) = k by omega]
 have g19:((stD M).map C.d)[19]? = some (.d (.str M.out)):=hg 2 (by decide)
 have g20:((stD M).map C.d)[20]? = some (.d (.int .i64 (M.steps:Nat))):=hg 3 (by decide)
 have g21:((stD M).map C.d)[21]? = some (.d (.int .i64 (M.fin:Nat))):=hg 4 (by decide)
 clear hg
 unfold stV at h2
 generalize (stD M).map C.d = L at h2 hl22 g19 g20 g21
 have hT:L.take 22 = L:=List.take_of_length_le (by omega)
 have hSt:stV (Mach.start d) = .agg ((stD (Mach.start d)).map .d):=rfl
 rw [hSt] at h1
 simp only [go_sem,↓reduceIte]
 refine draw_det Tt_ok mixed [7] [([3],[0],[],false),([1],[0],[],false),([3],[0],[],false),([10],[0],[],false),([2],[0],[],false),([8,9,11,12],[0],[],false),([],[],[0],false),([7,13],[],[],true)] 1 (by decide +kernel) rfl (by decide) ?_
 simp only [go_sem,↓reduceIte]
 iterate 3 (apply det_pure; · (intro fa ga oa K' hK; simp only [go_sem,↓reduceIte] at hK ⊢; exact hK))
 refine det_pure (v:=.agg ((stD (Mach.start d)).map .d)) (fun fa ga oa K' hK=>?_) ?_
 ·simp only [go_sem,↓reduceIte] at hK ⊢
  refine hook_call (k:=bx K') rfl (by simp only [go_sem,↓reduceIte]; exact h1) (by simp only [go_sem,↓reduceIte]; rfl) ?_
  rintro _ rfl
  simp only [go_sem,↓reduceIte]
  exact hK
 (apply det_pure; · (intro fa ga oa K' hK; simp only [go_sem,↓reduceIte] at hK ⊢; exact hK))
 refine det_pure (v:=.agg L) (fun fa ga oa K' hK=>?_) ?_
 ·simp only [go_sem,↓reduceIte] at hK ⊢
  refine hook_call (k:=bx K') rfl (by simp only [go_sem,↓reduceIte]; exact h2) (by simp only [go_sem,↓reduceIte]; rfl) ?_
  rintro _ rfl
  simp only [go_sem,↓reduceIte]
  exact hK
 (apply det_new; · (intro fa ga oa K' hK; simp only [go_sem,↓reduceIte] at hK ⊢; exact hK))
 apply det_last
 intro K' hK'
 simp only [go_sem,↓reduceIte,hl22]
 refine hK' _ ?_
 clear hK' K'
 rw [setAt_all (by rw [hl22]; rfl)]
 have hl22':=hl22
 by_cases h0:M.fin = 0
 ·have h0i:(M.fin:Int) = 0:=by omega
  rw [if_pos h0]
  have s21:(L.set 21 (C.d (D.int .i64 5)))[21]? = some (C.d (D.int .i64 5)):=set_same (by omega)
  have s20:(L.set 21 (C.d (D.int .i64 5)))[20]? = some (.d (.int .i64 (M.steps:Nat))):=by rw [set_get (by decide)]; exact g20
  have s19:(L.set 21 (C.d (D.int .i64 5)))[19]? = some (.d (.str M.out)):=by rw [set_get (by decide)]; exact g19
  simp only [go_sem,↓reduceIte,g21,h0i,s21,s20,s19]
  exact ⟨by omega,_,frz_r3,rfl⟩
 ·have h0i:¬ (M.fin:Int) = 0:=by omega
  rw [if_neg h0]
  simp only [go_sem,↓reduceIte,g19,g20,g21,h0i]
  exact ⟨_,frz_r3,rfl⟩
end Go.Proofs.YtfcgadnbdcnnlabGreatDoor

namespace Go.Proofs.YtfcgadnbdcnnlabGreatDoor
open Go Go.Am Go.Asm Go.Mach
set_option maxHeartbeats 4000000 in
theorem words_R (s:Str) (g:Nat → Nat) (ob:Obs):FunR Tryz.prog 80 [sv s] g ob (fun r g' ob'=>r = .one (.clo 122 [.ptr 1001 (g' 1001) 0]) ∧ ob' 1001 = some [.d (.str s)] ∧ ∀ i,i ≠ 1001 → g' i = g i ∧ ob' i = ob i):=by
 refine fun_of_wp 1000 Tt_ok mixed Tryz.func80 rfl (by rfl) [2] rfl (by kernel_rfl) (by simp [Tryz.ntmps80]) ?_
 simp only [go_sem,↓reduceIte,makeFuncA,pcsOf,pcOf]
 exact retF_of (.inl rfl) ⟨by simp [resAV,upd],by simp [upd],fun i h1=>by simp [upd,h1]⟩
theorem or_part (x y k:Nat) (hx:x < 2 ^ k) (hy:y < 256) (hk:k ≤ 24):IntKind.u32.wrap ((BitVec.ofInt 32 ((x:Nat):Int) ||| BitVec.ofInt 32 ((y * 2 ^ k:Nat):Int)).toNat:Int) = ((x + y * 2 ^ k:Nat):Int):=by
 have hp:2 ^ k ≤ 2 ^ 24:=Nat.pow_le_pow_right (by decide) hk
 have h2:y * 2 ^ k ≤ 255 * 2 ^ 24:=Nat.mul_le_mul (by omega) hp
 have e24:2 ^ 24 = 16777216:=rfl
 rw [or32' (by omega) (by omega),Nat.or_comm,orAdd y x k hx,w32_lt (by omega),Nat.add_comm]
set_option maxHeartbeats 16000000 in
theorem wordsIt {h1:Nat} {s:Str} {g:Nat → Nat} {ob:Obs} (hs:s.length ≤ 1000000000) (e1:g 1001 = h1) (o1:ob 1001 = some [.d (.str s)]) :
  IterR Tryz.prog 122 ([PC.ptr 1001 h1 0].map pcAV) (fun id=>id = 1001) (fun x:Nat=>[iv .u32 (x:Nat)]) g ob (wordsL s) (fun _ _=>True):=by
 refine iter_of_wp2 1200 Tt_ok mixed Tryz.func122 rfl (by rfl) rfl (by kernel_rfl) (by kernel_rfl) (by simp [Tryz.ntmps122]) ?_
 intro b₀ Φ l J Jx hΦ hJ hJx hY h0
 simp only [List.map_cons,List.map_nil,pcAV]
 have hwl:=wordsL_len s
 simp only [go_sem,↓reduceIte]
 refine loop_introF (fun n st=>∃ k:Nat,n + k = (wordsL s).length ∧ J k st.gen st.obj ∧ st.f 0 = .one (.d (.yld l)) ∧ st.f 1 = .one (.ptr 1001 h1 0) ∧ st.f 3 = iv .i64 (4 * k:Nat) ∧ st.gen 1001 = h1 ∧ st.obj 1001 = some [.d (.str s)]) (wordsL s).length ?_ ?_
 ·refine ⟨0,rfl,h0,?_⟩
  simp only [go_sem,↓reduceIte]
  exact ⟨e1,o1⟩
 clear h0 e1 o1
 rintro n f g ob ⟨k,hn,hJk,q0,q1,q3,e1,o1⟩
 simp only at hJk q0 q1 q3 e1 o1
 have w4':IntKind.i64.wrap (((4 * k:Nat):Int) + 4) = ((4 * (k + 1):Nat):Int):=by rw [wrap_i64] <;> omega
 by_cases hlt:k < (wordsL s).length
 case neg =>
  have hi:¬ ((4 * (k + 1):Nat):Int) ≤ (s.length:Int):=by omega
  simp only [go_sem,↓reduceIte,q0,q1,q3,e1,o1,w4',hi]
  exact ⟨_,SemVs.refl _,.inl (by rw [show (wordsL s).length = k by omega]; exact hJk)⟩
 have hi:((4 * (k + 1):Nat):Int) ≤ (s.length:Int):=by omega
 obtain ⟨a,ha⟩:=getq (l:=s) (k:=4 * k) (by omega)
 obtain ⟨b,hb⟩:=getq (l:=s) (k:=4 * k + 1) (by omega)
 obtain ⟨c,hc⟩:=getq (l:=s) (k:=4 * k + 2) (by omega)
 obtain ⟨d,hd⟩:=getq (l:=s) (k:=4 * k + 3) (by omega)
 have hx:=wordsL_get s k ha hb hc hd
 have ia:IntKind.i64.wrap (((4 * k:Nat):Int) + 1) = ((4 * k + 1:Nat):Int):=by rw [wrap_i64] <;> omega
 have ib:IntKind.i64.wrap (((4 * k:Nat):Int) + 2) = ((4 * k + 2:Nat):Int):=by rw [wrap_i64] <;> omega
 have ic:IntKind.i64.wrap (((4 * k:Nat):Int) + 3) = ((4 * k + 3:Nat):Int):=by rw [wrap_i64] <;> omega
 have p0:(0:Int) ≤ ((4 * k:Nat):Int):=by omega
 have p1:(0:Int) ≤ ((4 * k + 1:Nat):Int):=by omega
 have p2:(0:Int) ≤ ((4 * k + 2:Nat):Int):=by omega
 have p3:(0:Int) ≤ ((4 * k + 3:Nat):Int):=by omega
 have la:=a.toNat_lt
 have lb:=b.toNat_lt
 have lc:=c.toNat_lt
 have ld:=d.toNat_lt
 have sh:∀ (x k:Nat),x < 256 → k ≤ 24 → IntKind.u32.wrap ((x:Int) * 2 ^ k) = ((x * 2 ^ k:Nat):Int):=fun x k hx hk=>by
  have hp:2 ^ k ≤ 2 ^ 24:=Nat.pow_le_pow_right (by decide) hk
  have h2:x * 2 ^ k ≤ 255 * 2 ^ 24:=Nat.mul_le_mul (by omega) hp
  have e24:2 ^ 24 = 16777216:=rfl
  rw [show ((x:Int) * 2 ^ k) = ((x * 2 ^ k:Nat):Int) by push_cast; rfl,w32_lt (by omega)]
 have s8:IntKind.u32.wrap (((b.toNat:Nat):Int) * 2 ^ min 8 32) = ((b.toNat * 2 ^ 8:Nat):Int):=sh _ 8 lb (by decide)
 have s16:IntKind.u32.wrap (((c.toNat:Nat):Int) * 2 ^ min 16 32) = ((c.toNat * 2 ^ 16:Nat):Int):=sh _ 16 lc (by decide)
 have s24:IntKind.u32.wrap (((d.toNat:Nat):Int) * 2 ^ min 24 32) = ((d.toNat * 2 ^ 24:Nat):Int):=sh _ 24 ld (by decide)
 simp only [go_sem,↓reduceIte,q0,q1,q3,e1,o1,w4',hi]
 refine draw_introF (by decide +kernel) ?_
 simp only [go_sem,↓reduceIte,q0,q1,q3,e1,o1,ia,ib,ic,p0,p1,p2,p3,Int.toNat_natCast,ha,hb,hc,hd,w32_lt (show a.toNat < 4294967296 by omega),w32_lt (show b.toNat < 4294967296 by omega),w32_lt (show c.toNat < 4294967296 by omega),w32_lt (show d.toNat < 4294967296 by omega),s8,s16,s24]
 erw [or_part a.toNat b.toNat 8 (by omega) lb (by decide),or_part (a.toNat + b.toNat * 2 ^ 8) c.toNat 16 (by omega) lc (by decide),or_part (a.toNat + b.toNat * 2 ^ 8 + c.toNat * 2 ^ 16) d.toNat 24 (by omega) ld (by decide)]
 have hw:a.toNat + b.toNat * 2 ^ 8 + c.toNat * 2 ^ 16 + d.toNat * 2 ^ 24 = w4 a b c d:=by unfold w4; omega
 rw [hw]
 generalize w4 a b c d = w at hx
 clear sh s8 s16 s24 hw ha hb hc hd la lb lc ld
 refine hook_yield (l:=l) rfl (by simp only [go_sem,↓reduceIte,q0]) hΦ (by simp only [go_sem,↓reduceIte,q0]; exact hY k w g ob hx hJk) ?_
 rintro r g3 ob3 ⟨hsame,⟨rfl,hJ3⟩ | ⟨rfl,hJx3⟩⟩
 ·have hs1:=hsame 1001 rfl
  simp only [go_sem,↓reduceIte,q3,w4']
  refine round_endF (n - 1) (by omega) ⟨k + 1,by omega,hJ3,?_⟩
  simp only [go_sem,↓reduceIte,q0,q1]
  exact ⟨by rw [hs1.1]; exact e1,by rw [hs1.2]; exact o1⟩
 ·simp only [go_sem,↓reduceIte]
  exact ⟨_,SemVs.refl _,.inr hJx3⟩
def WordsAt (id:Nat) (l:List Nat) (g:Nat → Nat) (ob:Obs) (c:C):Prop:=(l = [] ∧ c = .d .nsl) ∨ (l ≠ [] ∧ c = .osl id (g id) 1 0 l.length ∧ ob id = some (wordC l))
structure JApp (xs:List Nat) (h2:Nat) (g0:Nat → Nat) (ob0:Obs) (k:Nat) (g:Nat → Nat) (ob:Obs):Prop where
 old:∀ id,id < 1000 → g id = g0 id ∧ ob id = ob0 id
 e2:g 1102 = h2
 o2:∃ c,ob 1102 = some [c] ∧ WordsAt 1111 (xs.take k) g ob c
set_option maxHeartbeats 16000000 in
theorem AppendSeq_R {h1:Nat} {s:Str} {g:Nat → Nat} {ob:Obs} (hs:s.length ≤ 1000000000) (e1:g 1001 = h1) (o1:ob 1001 = some [.d (.str s)]) :
  FunR Tryz.prog 121 [.one (.d .nsl),.one (.clo 122 [.ptr 1001 h1 0])] g ob (fun r g' ob'=>(∀ id,id < 1000 → g' id = g id ∧ ob' id = ob id) ∧ ∃ c,r = .one c ∧ WordsAt 1111 (wordsL s) g' ob' c):=by
 refine fun_of_wpRF2 1100 Tt_ok mixed Tryz.func121 rfl (by rfl) [.tmp 4] rfl (by kernel_rfl) (by kernel_rfl) (by simp [Tryz.ntmps121]) fun b₀ β0 s0 w0=>?_
 have hwl:=wordsL_len s
 simp only [go_sem,↓reduceIte]
 refine hook_range (Fin:=fun _ _=>True) Tt_ok (fid:=122) (caps:=[.ptr 1001 h1 0]) (by simp only [go_sem,↓reduceIte]) 1190 (fun id=>id = 1190 ∨ id = 1001) (fun id=>id = 1001) (.inl rfl) (by decide) (fun id h=>.inr h) (fun x:Nat=>[iv .u32 (x:Nat)]) (wordsL s) (fun x=>rfl) (by kernel_rfl) (by kernel_rfl)
  (fun g' ob' h=>wordsIt hs ((h 1001 (by decide)).1.trans (by simp [upd,e1])) ((h 1001 (by decide)).2.trans (by simp [upd,o1])))
  (fun _ _ _ _ _ _=>trivial)
  (JApp (wordsL s) (nxC 38 (g 1102)) g ob) (fun _ _=>False) ?_ ?_ ?_ ?_ ?_ ?_
 ·rintro k g1 ob1 g2 ob2 ⟨a1,a2,c,a3,a4⟩ h
  have hh:∀ id,id < 1000 ∨ id = 1102 ∨ id = 1111 → g2 id = g1 id ∧ ob2 id = ob1 id:=fun id hid=>h id (by omega)
  refine ⟨fun id hid=>⟨(hh id (.inl hid)).1.trans (a1 id hid).1,(hh id (.inl hid)).2.trans (a1 id hid).2⟩,(hh 1102 (by omega)).1.trans a2,c,(hh 1102 (by omega)).2.trans a3,?_⟩
  unfold WordsAt at a4 ⊢
  rw [(hh 1111 (by omega)).1,(hh 1111 (by omega)).2]
  exact a4
 ·exact fun _ _ _ _ h _=>h
 ·exact ⟨fun id hid=>⟨by simp only [upd]; rw [if_neg (by omega)],by simp only [upd]; rw [if_neg (by omega)]⟩,by simp [upd],_,by simp [upd] <;> rfl,.inl ⟨rfl,rfl⟩⟩
 ·rintro k x g1 ob1 hx ⟨a1,a2,c,a3,a4⟩ l Φ hΦ
  have hkl:=(List.getElem?_eq_some_iff.1 hx).1
  have hnx:(wordsL s).take (k + 1) = (wordsL s).take k ++ [x]:=by rw [List.take_add_one,hx]; rfl
  have htl:((wordsL s).take k).length = k:=by rw [List.length_take]; omega
  simp only [go_sem,↓reduceIte]
  intro o Φ' hΦ'
  rcases a4 with ⟨w1,rfl⟩ | ⟨w1,rfl,w3⟩
  ·have hk0:k = 0:=by rw [w1] at htl; simpa using htl.symm
   simp only [go_sem,↓reduceIte,a2,a3,elemTy]
   refine ⟨⟨by decide,by decide⟩,fun id hid=>by rcases hid with rfl | rfl <;> simp,⟨fun id hid=>?_,by simp [upd,a2],_,by simp [upd] <;> rfl,.inr ⟨by rw [hnx]; simp,?_,?_⟩⟩⟩
   ·exact ⟨by simp only [upd]; (repeat rw [if_neg (by omega)]); exact (a1 id hid).1,by simp only [upd]; (repeat rw [if_neg (by omega)]); exact (a1 id hid).2⟩
   ·rw [hnx,w1]; simp [upd]
   ·rw [hnx,w1]; simp [upd,wordC]
  ·have hwc:(wordC ((wordsL s).take k)).length = ((wordsL s).take k).length:=List.length_map _
   simp only [go_sem,↓reduceIte,a2,a3,w3,elemTy,htl]
   refine ⟨by omega,⟨by decide,by omega⟩,fun id hid=>by rcases hid with rfl | rfl <;> simp,⟨fun id hid=>?_,by simp [upd,a2],_,by simp [upd] <;> rfl,.inr ⟨by rw [hnx]; simp,?_,?_⟩⟩⟩
   ·exact ⟨by simp only [upd]; (repeat rw [if_neg (by omega)]); exact (a1 id hid).1,by simp only [upd]; (repeat rw [if_neg (by omega)]); exact (a1 id hid).2⟩
   ·rw [hnx,List.length_append,htl]; simp [upd]
   ·rw [hnx]; simp [upd,wordC]
    rw [List.take_take,Nat.min_self]
 ·rintro g1 ob1 ⟨a1,a2,c,a3,a4⟩ _
  rw [List.take_of_length_le (Nat.le_refl _)] at a4
  simp only [go_sem,↓reduceIte,a2,a3]
  exact retFR_at ⟨a1,c,by simp [upd],a4⟩
 ·exact fun _ _ h=>h.elim
set_option maxHeartbeats 8000000 in
theorem Collect_R {h1:Nat} {s:Str} {g:Nat → Nat} {ob:Obs} (hs:s.length ≤ 1000000000) (e1:g 1001 = h1) (o1:ob 1001 = some [.d (.str s)]) :
  FunR Tryz.prog 79 [.one (.clo 122 [.ptr 1001 h1 0])] g ob (fun r g' ob'=>(∀ id,id < 1000 → g' id = g id ∧ ob' id = ob id) ∧ ∃ c,r = .one c ∧ WordsAt 1111 (wordsL s) g' ob' c):=by
 refine fun_of_wp 1300 Tt_ok mixed Tryz.func79 rfl (by rfl) [2] rfl (by kernel_rfl) (by simp [Tryz.ntmps79]) ?_
 simp only [go_sem,↓reduceIte]
 refine hook_fun rfl (by simp only [go_sem,↓reduceIte]; exact AppendSeq_R hs e1 o1) ?_
 rintro _ g1 ob1 ⟨a1,c,rfl,a4⟩
 simp only [go_sem,↓reduceIte]
 exact retF_of (.inl rfl) ⟨a1,c,by simp [resAV,upd],a4⟩
end Go.Proofs.YtfcgadnbdcnnlabGreatDoor

namespace Go.Proofs.YtfcgadnbdcnnlabGreatDoor
open Go Go.Am Go.Asm Go.Mach
def readIV:Option (List Nat × Nat) → AV
 | some m=>.tup [imgV m,iv .i64 0]
 | none=>.tup [imgV ([],0),iv .i64 7]
structure JImg (xs:List Nat) (G:Nat → Nat) (O:Obs) (k:Nat) (g:Nat → Nat) (ob:Obs):Prop where
 old:∀ id,(id < 1000 ∨ id = 1111) → id ≠ 6 → id ≠ 52 → id ≠ 60 → g id = G id ∧ ob id = O id
 e6:g 6 = G 6
 o6:∃ c,ob 6 = some [c] ∧ c = .osl 52 (g 52) 1 0 k
 o52:∃ cells,ob 52 = some cells ∧ cells.take k = wordC (xs.take k) ∧ k ≤ cells.length
theorem frz_img2 {s:St} {cc:C} {code:List Nat} {d n:Nat} (hc:Frz s cc (codeD code)):FrzR s [.agg [cc,.d (.int .i64 (d:Nat))],iv .i64 (n:Nat)] (.tup [imgV (code,d),iv .i64 (n:Nat)]):=by
 refine ⟨_,⟨imgV (code,d),_,rfl,⟨[codeD code,.int .i64 (d:Nat)],rfl,fun i c hc'=>?_,rfl⟩,_,_,rfl,⟨_,.d _,rfl⟩,rfl⟩,rfl⟩
 match i,hc' with
 | 0,hc'=>cases hc'; exact ⟨_,rfl,hc⟩
 | 1,hc'=>cases hc'; exact ⟨_,rfl,.d _⟩
set_option maxHeartbeats 16000000 in
theorem ImgRead_A (s:Str) (hs:s.length ≤ 1000000000):PureR Tryz.prog 49 [sv s] (· = readIV (imgRead s)):=by
 refine pure_of_wpRF2 0 Tt_ok mixed Tryz.func49 rfl (by rfl) [.cell 2 39,.tmp 3] rfl (by kernel_rfl) (by kernel_rfl) (by simp [Tryz.ntmps49]) fun b₀ β0 s0 w0 g=>?_
 have bad:imgRead s = none → readIV (imgRead s) = .tup [imgV ([],0),iv .i64 7]:=fun h=>by rw [h]; rfl
 have hw2:IntKind.i64.wrap 65548 = 65548:=by decide
 by_cases h1:s.length < 12
 ·have hi:(s.length:Int) < 12:=by omega
  rw [bad (by unfold imgRead; rw [if_pos (.inl h1)])]
  simp only [go_sem,↓reduceIte,hi,buildA]
  exact ⟨_,frz_img,rfl⟩
 have hi:¬ (s.length:Int) < 12:=by omega
 by_cases h2:s.take 4 = [83,69,69,68]
 case neg =>
  rw [bad (by unfold imgRead; rw [if_pos (.inr (.inl h2))])]
  simp only [go_sem,↓reduceIte,hi,buildA,List.drop_zero,h2]
  exact ⟨by omega,_,frz_img,rfl⟩
 by_cases h3:65548 < s.length
 ·have hi3:(65548:Int) < (s.length:Int):=by omega
  rw [bad (by unfold imgRead; rw [if_pos (.inr (.inr h3))])]
  simp only [go_sem,↓reduceIte,hi,buildA,List.drop_zero,h2,hw2,hi3]
  exact ⟨by omega,_,frz_img,rfl⟩
 have hi3:¬ (65548:Int) < (s.length:Int):=by omega
 have hI:imgRead s = match wordsL ((s.take 12).drop 4) with
  | [n,d]=>if 32768 < d ∨ s.length ≠ 12 + 4 * n then none else some (wordsL (s.drop 12),d)
  | _=>none:=by
  unfold imgRead
  rw [if_neg (by rw [not_or,not_or]; exact ⟨h1,fun h=>h h2,h3⟩)]
  rfl
 rw [hI]
 clear hI bad
 have hlen8:((s.take 12).drop 4).length = 8:=by rw [List.length_drop,List.length_take]; omega
 have hwl:=wordsL_len ((s.take 12).drop 4)
 rw [hlen8] at hwl
 have hwlt:=wordsL_lt ((s.take 12).drop 4)
 obtain ⟨n,d,hnd⟩:∃ n d,wordsL ((s.take 12).drop 4) = [n,d]:=by
  match hx:wordsL ((s.take 12).drop 4),hwl with
  | [a,b],_=>exact ⟨a,b,rfl⟩
 rw [hnd] at hwlt ⊢
 simp only
 have hn:=hwlt n (by simp)
 have hd:=hwlt d (by simp)
 simp only [go_sem,↓reduceIte,hi,List.drop_zero,h2,hw2,hi3]
 refine ⟨by omega,by omega,?_⟩
 refine hook_funF kept_phiC rfl (by simp only [go_sem,↓reduceIte]; exact words_R ((s.take 12).drop 4) _ _) ?_
 rintro _ g1 ob1 ⟨rfl,o1,hs1⟩
 simp only [go_sem,↓reduceIte]
 refine hook_funF kept_phiC rfl (by simp only [go_sem,↓reduceIte]; exact Collect_R (by omega) rfl o1) ?_
 rintro _ g2 ob2 ⟨a1,c,rfl,a4⟩
 rw [hnd] at a4
 rcases a4 with ⟨w1,_⟩ | ⟨_,rfl,o1111⟩
 ·cases w1
 have e2:g2 2 = nxC 40 (g 2):=by rw [(a1 2 (by decide)).1,(hs1 2 (by decide)).1]; simp [upd]
 have o2:ob2 2 = some [.d .nsl,.d (.int .i64 0)]:=by rw [(a1 2 (by decide)).2,(hs1 2 (by decide)).2]; simp [upd]
 clear a1 hs1 o1
 have hW:∀ x:Nat,x < 18446744073709551616 → IntKind.u64.wrap ((x:Nat):Int) = ((x:Nat):Int):=fun x hx=>by rw [IntKind.wrap_u64]; omega
 have hW1:=hW s.length (by omega)
 have hW2:=hW n (by omega)
 have hW3:IntKind.u64.wrap (4 * (n:Int)) = ((4 * n:Nat):Int):=by rw [show 4 * (n:Int) = ((4 * n:Nat):Int) by omega]; exact hW _ (by omega)
 have hW4:IntKind.u64.wrap (12 + ((4 * n:Nat):Int)) = ((12 + 4 * n:Nat):Int):=by rw [show 12 + ((4 * n:Nat):Int) = ((12 + 4 * n:Nat):Int) by omega]; exact hW _ (by omega)
 have hW5:IntKind.u64.wrap 12 = 12:=by decide
 by_cases h4:32768 < d
 ·have h4i:(32768:Int) < (d:Int):=by omega
  rw [if_pos (.inl h4)]
  simp only [go_sem,↓reduceIte,o1111,wordC,h4i,e2,o2,buildA]
  exact ⟨_,frz_img,rfl⟩
 have h4i:¬ (32768:Int) < (d:Int):=by omega
 by_cases h5:s.length = 12 + 4 * n
 case neg =>
  have h5i:¬ (s.length:Int) = ((12 + 4 * n:Nat):Int):=by omega
  rw [if_pos (.inr h5)]
  simp only [go_sem,↓reduceIte,o1111,wordC,h4i,e2,o2,buildA,hW1,hW2,hW3,hW4,hW5,h5i]
  exact ⟨_,frz_img,rfl⟩
 have h5i:(s.length:Int) = ((12 + 4 * n:Nat):Int):=by omega
 rw [if_neg (by rw [not_or]; exact ⟨h4,fun h=>h h5⟩)]
 have hW6:=hW (12 + 4 * n) (by omega)
 have hlen:=h5
 simp only [go_sem,↓reduceIte,o1111,wordC,h4i,e2,o2,hW2,hW3,hW4,hW5,h5i,hW6]
 refine ⟨by omega,by omega,by omega,by omega,?_⟩
 refine hook_funF kept_phiC rfl (by simp only [go_sem,↓reduceIte]; exact words_R (s.drop 12) _ _) ?_
 rintro _ g3 ob3 ⟨rfl,o1,hs1⟩
 have e6:g3 6 = nxC 38 (g2 6):=by rw [(hs1 6 (by decide)).1]; simp [upd]
 have he:elemTy Tt 37 = 31:=by decide +kernel
 have o6:ob3 6 = some [.osl 52 (g3 52) 1 0 0]:=by rw [(hs1 6 (by decide)).2,(hs1 52 (by decide)).1]; simp [upd]
 have o52:ob3 52 = some ((List.replicate n [C.d (D.int .u32 0)]).flatten):=by rw [(hs1 52 (by decide)).2]; simp [upd]
 have e2':g3 2 = nxC 40 (g 2):=by rw [(hs1 2 (by decide)).1]; simp [upd,e2]
 have o2':ob3 2 = some [.d .nsl,.d (.int .i64 0)]:=by rw [(hs1 2 (by decide)).2]; simp [upd,o2]
 have e1111:g3 1111 = g2 1111:=by rw [(hs1 1111 (by decide)).1]; simp [upd]
 have o1111':ob3 1111 = some (wordC [n,d]):=by rw [(hs1 1111 (by decide)).2]; simp [upd,o1111]
 clear hs1
 have hl12:(s.drop 12).length ≤ 1000000000:=by rw [List.length_drop]; omega
 have hxl:(wordsL (s.drop 12)).length = n:=by rw [wordsL_len,List.length_drop]; omega
 generalize hxs:wordsL (s.drop 12) = xs at hxl ⊢
 simp only [go_sem,↓reduceIte]
 refine hook_range (Fin:=fun _ _=>True) Tt_ok (fid:=122) (caps:=[.ptr 1001 (g3 1001) 0]) (by simp only [go_sem,↓reduceIte]) 1290 (fun id=>id = 1290 ∨ id = 1001) (fun id=>id = 1001) (.inl rfl) (by decide) (fun id h=>.inr h) (fun x:Nat=>[iv .u32 (x:Nat)]) xs (fun x=>rfl) (by kernel_rfl) (by kernel_rfl)
  (fun g' ob' h=>by rw [← hxs]; exact wordsIt hl12 (h 1001 (by decide)).1 ((h 1001 (by decide)).2.trans o1))
  (fun _ _ _ _ _ _=>trivial)
  (JImg xs g3 ob3) (fun _ _=>False) ?_ ?_ ?_ ?_ ?_ ?_
 ·rintro k g1 ob1 g2 ob2 ⟨a1,a2,⟨c,a3,rfl⟩,cells,a4,a5,a6⟩ h
  have hh:∀ id,id < 1000 ∨ id = 1111 → g2 id = g1 id ∧ ob2 id = ob1 id:=fun id hid=>h id (by omega)
  refine ⟨fun id hid h6 h52 h60=>⟨(hh id hid).1.trans (a1 id hid h6 h52 h60).1,(hh id hid).2.trans (a1 id hid h6 h52 h60).2⟩,(hh 6 (by omega)).1.trans a2,⟨_,(hh 6 (by omega)).2.trans a3,by rw [(hh 52 (by omega)).1]⟩,cells,(hh 52 (by omega)).2.trans a4,a5,a6⟩
 ·exact fun _ _ _ _ h _=>h
 ·exact ⟨fun _ _ _ _ _=>⟨rfl,rfl⟩,rfl,⟨_,o6,rfl⟩,_,o52,rfl,Nat.zero_le _⟩
 ·rintro k x g1 ob1 hx ⟨a1,a2,⟨c,a3,rfl⟩,cells,a4,a5,a6⟩ l Φ hΦ
  have hkl:=(List.getElem?_eq_some_iff.1 hx).1
  have hnx:xs.take (k + 1) = xs.take k ++ [x]:=by rw [List.take_add_one,hx]; rfl
  rw [e6] at a2
  simp only [go_sem,↓reduceIte]
  intro o Φ' hΦ'
  simp only [go_sem,↓reduceIte,a2,a3,a4,elemTy]
  refine ⟨a6,⟨by decide,by omega⟩,fun id hid=>by rcases hid with rfl | rfl <;> simp,⟨fun id hid h6 h52 h60=>?_,by simp [upd,a2,e6],⟨_,by simp [upd] <;> rfl,by simp [upd]⟩,_,by simp [upd] <;> rfl,?_,by simp [a6]⟩⟩
  ·have:=a1 id hid h6 h52 h60
   exact ⟨by simp only [upd]; (repeat rw [if_neg (by omega)]); exact this.1,by simp only [upd]; (repeat rw [if_neg (by omega)]); exact this.2⟩
  ·rw [hnx,List.take_of_length_le (by simp [a6]),a5]; simp [wordC]
 ·rintro g1 ob1 ⟨a1,a2,⟨c,a3,rfl⟩,cells,a4,a5,a6⟩ _
  rw [e6] at a2
  have q2:=a1 2 (by decide) (by decide) (by decide) (by decide)
  have q1111:=a1 1111 (by decide) (by decide) (by decide) (by decide)
  rw [e2',o2'] at q2
  rw [e1111,o1111'] at q1111
  simp only [go_sem,↓reduceIte]
  refine draw_introF (by decide +kernel) ?_
  have hwd:IntKind.i64.wrap ((d:Nat):Int) = ((d:Nat):Int):=by rw [wrap_i64] <;> omega
  rw [List.take_of_length_le (Nat.le_refl _)] at a5
  simp only [go_sem,↓reduceIte,a2,a3,q2.1,q2.2,q1111.1,q1111.2,wordC,buildA,hwd]
  refine ⟨_,frz_img2 (code:=xs) (d:=d) (n:=0) ?_,rfl⟩
  refine frz_map (cells:=cells) (off:=0) rfl (by simp [upd,a4]) xs (fun n=>.int .u32 (n:Nat)) (fun _=>rfl) rfl (fun j a h=>?_) (by omega)
  have hj:=(List.getElem?_eq_some_iff.1 h).1
  have:(cells.take xs.length)[j]? = some (.d (.int .u32 (a:Nat))):=by rw [a5]; unfold wordC; rw [List.getElem?_map,h]; rfl
  rw [List.getElem?_take,if_pos hj] at this
  rw [Nat.zero_add]; exact this
 ·exact fun _ _ h=>h.elim
def bytesRun (s inp:Str) (fuel:Nat):Option (Nat × Str × Nat):=(imgRead s).map fun m=>resM okI m.1 m.2 inp fuel
def bytesV:Option (Nat × Str × Nat) → AV
 | some r=>.tup [resR r,iv .i64 0]
 | none=>.tup [resR (0,[],0),iv .i64 7]
set_option maxHeartbeats 8000000 in
theorem ExecBytes_A (s inp:Str) (fuel:Nat) (hs:s.length ≤ 1000000000) (hfu:fuel ≤ 500000000000):PureR Tryz.prog 25 [sv s,sv inp,iv .i64 fuel] (· = bytesV (bytesRun s inp fuel)):=by
 refine pure_of_wpR Tt_ok mixed Tryz.func25 rfl (by rfl) [.cell 6 43,.tmp 7] rfl (by kernel_rfl) (by simp [Tryz.ntmps25]) fun g=>?_
 have hr:=fun m (h:imgRead s = some m)=>imgRead_right h
 unfold bytesRun
 simp only [go_sem,↓reduceIte]
 refine hook_call rfl (by simp only [go_sem,↓reduceIte]; exact ImgRead_A s hs) (by simp only [go_sem,↓reduceIte]; cases imgRead s <;> rfl) ?_
 rintro _ rfl
 cases hm:imgRead s with
 | none =>
   unfold readIV imgV
   simp only [go_sem,↓reduceIte,buildA]
   exact ⟨_,frz_res (e:=0) (n:=0),rfl⟩
 | some m =>
   obtain ⟨code,d⟩:=m
   obtain ⟨r1,r2,r3⟩:=hr _ hm
   have hR:=Run_A code d inp fuel r3 r2 hfu
   obtain ⟨x,y,z,hxyz⟩:∃ x y z,resM okI code d inp fuel = (x,y,z):=⟨_,_,_,rfl⟩
   simp only [Option.map_some]
   rw [hxyz] at hR ⊢
   unfold imgV at hR
   unfold readIV imgV
   unfold resR at hR
   simp only at hR
   simp only [go_sem,↓reduceIte]
   refine hook_call rfl (by simp only [go_sem,↓reduceIte]; exact hR) (by simp only [go_sem,↓reduceIte]; rfl) ?_
   rintro _ rfl
   simp only [go_sem,↓reduceIte]
   exact ⟨_,frz_res (e:=x) (n:=z),rfl⟩
def playT (s inp:Str) (fuel:Nat):Str × Nat :=
 match bytesRun s inp fuel with
 | none=>([],7)
 | some r=>if r.1 = 1 then (r.2.1,0) else ([],12)
set_option maxHeartbeats 8000000 in
theorem play_A (s inp:Str) (fuel:Nat) (hs:s.length ≤ 1000000000) (hfu:fuel ≤ 500000000000):PureR Tryz.prog 12 [sv s,sv inp,iv .i64 fuel] (· = tw (playT s inp fuel)):=by
 refine pure_of_wpR Tt_ok mixed Tryz.func12 rfl (by rfl) [.tmp 6,.tmp 7] rfl (by kernel_rfl) (by simp [Tryz.ntmps12]) fun g=>?_
 have hE:=ExecBytes_A s inp fuel hs hfu
 unfold playT
 cases hb:bytesRun s inp fuel with
 | none =>
   rw [hb] at hE
   unfold bytesV resR at hE
   simp only [go_sem,↓reduceIte]
   refine hook_call rfl (by simp only [go_sem,↓reduceIte]; exact hE) (by simp only [go_sem,↓reduceIte]; rfl) ?_
   rintro _ rfl
   simp only [go_sem,↓reduceIte]
   exact ⟨_,frz_tw,rfl⟩
 | some r =>
   obtain ⟨x,y,z⟩:=r
   rw [hb] at hE
   unfold bytesV resR at hE
   simp only at hE ⊢
   simp only [go_sem,↓reduceIte]
   refine hook_call rfl (by simp only [go_sem,↓reduceIte]; exact hE) (by simp only [go_sem,↓reduceIte]; rfl) ?_
   rintro _ rfl
   by_cases h1:x = 1
   ·have h1i:(x:Int) = 1:=by omega
    rw [if_pos h1]
    simp only [go_sem,↓reduceIte,h1i]
    exact ⟨_,frz_tw,rfl⟩
   ·have h1i:¬ (x:Int) = 1:=by omega
    rw [if_neg h1]
    simp only [go_sem,↓reduceIte,h1i]
    exact ⟨_,frz_tw,rfl⟩
end Go.Proofs.YtfcgadnbdcnnlabGreatDoor

namespace Go.Proofs.YtfcgadnbdcnnlabGreatDoor
open Go Go.Am Go.Asm Go.Mach
set_option maxHeartbeats 4000000 in
theorem DecodeR_A (w:Nat) (hw:w < 4294967296):PureR Tryz.prog 116 [iv .u32 w] (· = decV w):=by
 refine pure_of_wpR Tt_ok mixed Tryz.func116 rfl (by rfl) [.cell 2 106,.tmp 3] rfl (by kernel_rfl) (by simp [Tryz.ntmps116]) fun g=>?_
 have d1:((w:Nat):Int).tdiv 16777216 = ((w / 16777216:Nat):Int):=rfl
 have d2:((w:Nat):Int).tdiv 1048576 = ((w / 1048576:Nat):Int):=rfl
 have d3:((w:Nat):Int).tdiv 65536 = ((w / 65536:Nat):Int):=rfl
 have m1:∀ x:Nat,((x:Nat):Int).tmod 16 = ((x % 16:Nat):Int):=fun _=>rfl
 have m2:((w:Nat):Int).tmod 65536 = ((w % 65536:Nat):Int):=rfl
 have c64:∀ x:Nat,x < 4294967296 → IntKind.i64.wrap ((x:Nat):Int) = ((x:Nat):Int):=fun x hx=>by rw [wrap_i64] <;> omega
 have u1:=w32_lt (n:=w / 16777216) (by omega)
 have u2:=w32_lt (n:=w / 1048576) (by omega)
 have u3:=w32_lt (n:=w / 65536) (by omega)
 have u4:=w32_lt (n:=w / 1048576 % 16) (by omega)
 have u5:=w32_lt (n:=w / 65536 % 16) (by omega)
 have u6:=w32_lt (n:=w % 65536) (by omega)
 simp only [go_sem,↓reduceIte,d1,d2,d3,m1,m2,u1,u2,u3,u4,u5,u6,c64 (w / 16777216) (by omega),c64 (w / 1048576 % 16) (by omega),c64 (w / 65536 % 16) (by omega),c64 (w % 65536) (by omega),buildA]
 refine hook_call rfl (by simp only [go_sem,↓reduceIte]; exact RightR_A (w / 16777216:Nat) (w / 1048576 % 16:Nat) (w / 65536 % 16:Nat) (w % 65536:Nat)) (by simp only [go_sem,↓reduceIte]; rfl) ?_
 rintro _ rfl
 unfold decV
 cases hR:rightI (w / 16777216:Nat) (w / 1048576 % 16:Nat) (w / 65536 % 16:Nat) (w % 65536:Nat)
 ·simp only [go_sem,↓reduceIte,buildA]
  exact ⟨_,frz_ins,rfl⟩
 ·simp only [go_sem,↓reduceIte,buildA]
  exact ⟨_,frz_ins,rfl⟩
end Go.Proofs.YtfcgadnbdcnnlabGreatDoor

namespace Go.Proofs.YtfcgadnbdcnnlabGreatDoor
open Go Go.Am Go.Asm Go.Mach
set_option maxHeartbeats 4000000 in
theorem StartR_A (code:List Nat) (d:Nat) (hd:d ≤ 32768):PureR Tryz.prog 24 [imgV (code,d)] (· = stV (Mach.start d)):=by
 refine pure_of_wpR Tt_ok mixed Tryz.func24 rfl (by rfl) [.cell 2 69] rfl (by kernel_rfl) (by simp [Tryz.ntmps24]) fun g=>?_
 have hdi:(d:Int) ≤ 32768:=by omega
 unfold imgV
 by_cases h0:d = 0
 ·subst h0
  simp only [go_sem,↓reduceIte]
  exact ⟨_,frz_state (m:=Mach.start 0) (.d .nsl) rfl,rfl⟩
 ·have h0i:(0:Int) < (d:Int):=by omega
  simp only [go_sem,↓reduceIte,h0i,hdi]
  refine ⟨Nat.le_refl _,by omega,by omega,_,frz_state (m:=Mach.start d) ?_ rfl,rfl⟩
  exact frz_code (code:=List.replicate d 0) (by simp [upd]) (by simp [upd]) (by simp)
def fetV:Option Nat → AV
 | some x=>.tup [iv .u32 (x:Nat),bv true]
 | none=>.tup [iv .u32 0,bv false]
set_option maxHeartbeats 4000000 in
theorem fetch_A (l:List Nat) (b c:Nat) (hl:l.length ≤ 1000000) (hc:c < 65536):PureR Tryz.prog 118 [.one (.d (wordsD l)),iv .u32 b,iv .i64 c] (· = fetV (l[(b + c) % 4294967296]?)):=by
 refine pure_of_wp Tt_ok mixed Tryz.func118 rfl (by rfl) [6,7] rfl (by kernel_rfl) (by simp [Tryz.ntmps118]) fun g=>?_
 have e1:=w32_lt (n:=c) (by omega)
 have e2:=w32_add b c
 have hlt:(b + c) % 4294967296 < 4294967296:=Nat.mod_lt _ (by decide)
 generalize (b + c) % 4294967296 = at' at e2 hlt ⊢
 have e3:=w64 (n:=at') (by omega)
 have e4:=w64 (n:=l.length) (by omega)
 have h0:(0:Int) ≤ (at':Int):=by omega
 unfold wordsD
 by_cases h:at' < l.length
 ·obtain ⟨x,hx⟩:=getq h
  have hn:¬ (l.length:Int) ≤ (at':Int):=by omega
  have hg:(l.map fun x=>[D.int .u32 (x:Nat)])[at']? = some [.int .u32 (x:Nat)]:=by rw [List.getElem?_map,hx]; rfl
  rw [hx]
  simp only [go_sem,↓reduceIte,e1,e2,e3,e4,hn,h0,hg,List.length_map,fetV]
 ·have hy:(l.length:Int) ≤ (at':Int):=by omega
  rw [List.getElem?_eq_none (by omega)]
  simp only [go_sem,↓reduceIte,e1,e2,e3,e4,hy,List.length_map,fetV]
end Go.Proofs.YtfcgadnbdcnnlabGreatDoor

namespace Go.Proofs.YtfcgadnbdcnnlabGreatDoor
open Go Go.Am Go.Asm Go.Mach
def okW (w:Nat):Bool:=okI (w / 16777216) (w / 1048576 % 16) (w / 65536 % 16) (w % 65536)
def insW (w:Nat):List D:=if okW w = true then [.int .i64 (w / 16777216:Nat),.int .i64 (w / 1048576 % 16:Nat),.int .i64 (w / 65536 % 16:Nat),.int .i64 (w % 65536:Nat)] else [.int .i64 0,.int .i64 0,.int .i64 0,.int .i64 0]
theorem insW_len (w:Nat):(insW w).length = 4:=by unfold insW; split <;> rfl
theorem insW_norm (w:Nat):∀ x ∈ insW w,normD x = x:=fun x hx=>by
 unfold insW at hx
 split at hx <;> simp only [List.mem_cons,List.not_mem_nil,or_false] at hx <;> rcases hx with rfl | rfl | rfl | rfl <;> rfl
def insCs (l:List Nat):List C:=l.flatMap fun w=>(insW w).map .d
def okCs (l:List Nat):List C:=l.map fun w=>.d (.bool (okW w))
theorem okCs_flat (l:List Nat):okCs l = l.flatMap fun w=>([D.bool (okW w)]).map .d:=by
 unfold okCs
 induction l with
 | nil=>rfl
 | cons a l ih=>simpa using ih
theorem insCs_len:∀ l:List Nat,(insCs l).length = 4 * l.length
 | []=>rfl
 | w :: l=>by
   have ih:=insCs_len l
   unfold insCs at ih ⊢
   rw [List.flatMap_cons,List.length_append,List.length_map,insW_len,ih]; simp only [List.length_cons]; omega
theorem insCs_snoc (l:List Nat) (w:Nat):insCs (l ++ [w]) = insCs l ++ (insW w).map .d:=by unfold insCs; rw [List.flatMap_append]; simp
theorem okCs_snoc (l:List Nat) (w:Nat):okCs (l ++ [w]) = okCs l ++ [.d (.bool (okW w))]:=by unfold okCs; simp
theorem set4 {pre rest:List C} {p:Nat} (h:pre.length = p) (x0 x1 x2 x3 a b c d:C):((((pre ++ x0 :: x1 :: x2 :: x3 :: rest).set p a).set (p + 1) b).set (p + 1 + 1) c).set (p + 1 + 1 + 1) d = (pre ++ [a,b,c,d]) ++ rest:=by
 subst h
 rw [show pre.length + 1 + 1 = pre.length + 2 from rfl,show pre.length + 2 + 1 = pre.length + 3 from rfl]
 simp
theorem set1 {pre rest:List C} {p:Nat} (h:pre.length = p) (x0 a:C):(pre ++ x0 :: rest).set p a = (pre ++ [a]) ++ rest:=by
 subst h
 simp
def decR (w:Nat):AV:=.tup [.agg ((insW w).map .d),iv .i64 (if okW w = true then 0 else 7)]
theorem decV_eq (w:Nat):decV w = decR w:=by
 unfold decV decR insW okW okI
 split <;> rfl
set_option maxHeartbeats 16000000 in
theorem Code_A (code:List Nat) (d:Nat) (hl:code.length ≤ 1000000) (hcw:∀ w ∈ code,w < 4294967296):PureR Tryz.prog 77 [imgV (code,d)] (· = .tup [.one (.d (.sl (code.map insW))),.one (.d (.sl (code.map fun w=>[.bool (okW w)])))]):=by
 refine pure_of_wpR Tt_ok mixed Tryz.func77 rfl (by rfl) [.tmp 2,.tmp 3] rfl (by kernel_rfl) (by simp [Tryz.ntmps77]) fun g=>?_
 have h0:(0:Int) ≤ (code.length:Int):=by omega
 unfold imgV codeD
 simp only [go_sem,↓reduceIte,List.length_map,h0]
 refine ⟨Nat.le_refl _,by omega,by omega,Nat.le_refl _,by omega,by omega,?_⟩
 refine loop_intro (fun n st=>∃ k:Nat,n + k = code.length ∧ st.f 1 = .one (.ptr 1 (nxC 40 (g 1)) 0) ∧ st.gen 1 = nxC 40 (g 1) ∧ st.obj 1 = some [.d (.sl (code.map fun n=>[.int .u32 (n:Nat)])),.d (.int .i64 (d:Nat))] ∧ st.f 6 = iv .i64 k ∧
  st.f 4 = .one (.osl 12 (st.gen 12) 4 0 code.length) ∧ st.obj 12 = some (insCs (code.take k) ++ (List.replicate n [C.d (.int .i64 0),.d (.int .i64 0),.d (.int .i64 0),.d (.int .i64 0)]).flatten) ∧
  st.f 5 = .one (.osl 16 (st.gen 16) 1 0 code.length) ∧ st.obj 16 = some (okCs (code.take k) ++ (List.replicate n [C.d (.bool false)]).flatten)) code.length ?_ ?_
 ·refine ⟨0,rfl,?_⟩
  simp only [go_sem,↓reduceIte]
  try exact ⟨rfl,rfl⟩
 rintro n f g' ob ⟨k,hk,q1,q1g,q1o,q6,q4,q4o,q5,q5o⟩
 simp only at q1 q1g q1o q6 q4 q4o q5 q5o
 have hw:=wrap_succ (k:=k) (by omega)
 cases n with
 | zero =>
   obtain rfl:k = code.length:=by omega
   have hno:¬ (code.length:Int) < (code.length:Int):=by omega
   rw [List.take_of_length_le (Nat.le_refl _)] at q4o q5o
   simp only [List.replicate_zero,List.flatten_nil,List.append_nil] at q4o q5o
   simp only [go_sem,↓reduceIte,q1,q1g,q1o,q6,q4,q5,hno,List.length_map]
   exact ⟨_,⟨_,⟨_,_,rfl,frzOne (frz_rows (cells:=insCs code) rfl code insW (by simp [upd,q4o]) rfl (fun a _=>insW_norm a) (fun a _=>insW_len a) rfl),_,_,rfl,frzOne (frz_rows (cells:=okCs code) rfl code (fun w=>[.bool (okW w)]) (by simp [upd,q5o]) (okCs_flat code) (fun a _ x hx=>by simp only [List.mem_singleton] at hx; subst hx; rfl) (fun _ _=>rfl) rfl),rfl⟩,rfl⟩,rfl⟩
 | succ m =>
   have hlt:k < code.length:=by omega
   have hlti:(k:Int) < (code.length:Int):=by omega
   have hk0:(0:Int) ≤ (k:Int):=by omega
   obtain ⟨w,hwk⟩:=getq hlt
   have hg:(code.map fun n=>[D.int .u32 (n:Nat)])[k]? = some [.int .u32 (w:Nat)]:=by rw [List.getElem?_map,hwk]; rfl
   have hD:=DecodeR_A w (hcw w (List.mem_of_getElem? hwk))
   rw [decV_eq] at hD
   have htk:code.take (k + 1) = code.take k ++ [w]:=by rw [List.take_add_one,hwk]; rfl
   have htl:(code.take k).length = k:=by rw [List.length_take]; omega
   have hpl:(insCs (code.take k)).length = k * 4:=by rw [insCs_len,htl]; omega
   have hol:(okCs (code.take k)).length = k:=by unfold okCs; rw [List.length_map,htl]
   have hs4:=fun x a b c d=>set4 (rest:=(List.replicate m [C.d (.int .i64 0),.d (.int .i64 0),.d (.int .i64 0),.d (.int .i64 0)]).flatten) hpl x x x x a b c d
   have hs1:=set1 (rest:=(List.replicate m [C.d (.bool false)]).flatten) hol (C.d (.bool false))
   rw [List.replicate_succ,List.flatten_cons] at q4o q5o
   have hi1:=insCs_snoc (code.take k) w
   have ho1:=okCs_snoc (code.take k) w
   rw [← htk] at hi1 ho1
   generalize insCs (code.take k) = A at q4o hpl hs4 hi1
   generalize okCs (code.take k) = B at q5o hol hs1 ho1
   unfold decR insW at hD
   unfold insW at hi1
   simp only [go_sem,↓reduceIte,q1,q1g,q1o,q6,hlti,hk0,hg,List.length_map]
   cases hR:okW w
   ·rw [hR,if_neg (by simp)] at hD
    rw [hR,if_neg (by simp)] at hi1
    rw [hR] at ho1
    simp only [List.map_cons,List.map_nil,Bool.false_eq_true,if_false] at hD hi1
    refine hook_call rfl (by simp only [go_sem,↓reduceIte]; exact hD) (by simp only [go_sem,↓reduceIte]; rfl) ?_
    rintro _ rfl
    simp only [go_sem,↓reduceIte,q1,q4,q4o,q5,q5o,q6,hk0,hlti]
    refine ⟨by simp only [List.length_append,List.length_cons,hpl]; omega,by simp only [List.length_append,List.length_cons,hol]; omega,?_⟩
    simp only [go_sem,↓reduceIte,q6,hw]
    refine round_end m (by omega) ⟨k + 1,by omega,?_⟩
    simp only [go_sem,↓reduceIte,q1,q1g,q1o,q4,q5]
    exact ⟨by rw [hs4,hi1],by rw [hs1,ho1]⟩
   ·rw [hR,if_pos rfl] at hD
    rw [hR,if_pos rfl] at hi1
    rw [hR] at ho1
    simp only [List.map_cons,List.map_nil,if_true] at hD hi1
    refine hook_call rfl (by simp only [go_sem,↓reduceIte]; exact hD) (by simp only [go_sem,↓reduceIte]; rfl) ?_
    rintro _ rfl
    simp only [go_sem,↓reduceIte,q1,q4,q4o,q5,q5o,q6,hk0,hlti]
    refine ⟨by simp only [List.length_append,List.length_cons,hpl]; omega,by simp only [List.length_append,List.length_cons,hol]; omega,?_⟩
    simp only [go_sem,↓reduceIte,q6,hw]
    refine round_end m (by omega) ⟨k + 1,by omega,?_⟩
    simp only [go_sem,↓reduceIte,q1,q1g,q1o,q4,q5]
    exact ⟨by rw [hs4,hi1],by rw [hs1,ho1]⟩
end Go.Proofs.YtfcgadnbdcnnlabGreatDoor

namespace Go.Proofs.YtfcgadnbdcnnlabGreatDoor
open Go Go.Am Go.Asm Go.Mach
structure WC (cs:List C) (code:List Nat) (inp:Str) (m:M) (mc xc cc:C):Prop where
 len:cs.length = 28
 c0:cs[0]? = some (.d (.int .i64 (m.pc:Nat)))
 rl:m.reg.length = 16
 rg:∀ a,a < 16 → cs[1 + a]? = some (.d (.int .u32 (m.r a:Nat)))
 c17:cs[17]? = some (mc)
 c18:cs[18]? = some (.d (.int .i64 (m.rd:Nat)))
 c19:cs[19]? = some (.d (.str []))
 c20:cs[20]? = some (.d (.int .i64 (m.steps:Nat)))
 c21:cs[21]? = some (.d (.int .i64 (m.fin:Nat)))
 c22:cs[22]? = some (xc)
 c23:cs[23]? = some (.d (.sl (code.map insW)))
 c24:cs[24]? = some (.d (.sl (code.map fun w=>[.bool (okW w)])))
 c25:cs[25]? = some (.d (codeD code))
 c26:cs[26]? = some (.d (.str inp))
 c27:cs[27]? = some (cc)
section
variable {cs:List C} {code:List Nat} {inp:Str} {m:M} {mc xc cc:C}
theorem WC.setReg (h:WC cs code inp m mc xc cc) {a:Nat} (ha:a < 16) (x:Nat):WC (cs.set (1 + a) (.d (.int .u32 (x:Nat)))) code inp { m with reg:=m.reg.set a x } mc xc cc:=by
 have hl:=h.len
 refine ⟨by simp [h.len],by rw [set_get (by omega)]; exact h.c0,by simp [h.rl],fun k hk=>?_,by rw [set_get (by omega)]; exact h.c17,by rw [set_get (by omega)]; exact h.c18,by rw [set_get (by omega)]; exact h.c19,by rw [set_get (by omega)]; exact h.c20,by rw [set_get (by omega)]; exact h.c21,by rw [set_get (by omega)]; exact h.c22,by rw [set_get (by omega)]; exact h.c23,by rw [set_get (by omega)]; exact h.c24,by rw [set_get (by omega)]; exact h.c25,by rw [set_get (by omega)]; exact h.c26,by rw [set_get (by omega)]; exact h.c27⟩
 rw [r_set h.rl ha]
 by_cases hk':k = a
 ·subst hk'; rw [if_pos rfl,set_same (by omega)]
 ·rw [if_neg hk',set_get (by omega)]; exact h.rg k hk
theorem WC.setPc (h:WC cs code inp m mc xc cc) (n:Nat):WC (cs.set 0 (.d (.int .i64 (n:Nat)))) code inp { m with pc:=n } mc xc cc :=
 ⟨by simp [h.len],set_same (by rw [h.len]; decide),h.rl,fun k hk=>by rw [set_get (by omega)]; exact h.rg k hk,by rw [set_get (by omega)]; exact h.c17,by rw [set_get (by omega)]; exact h.c18,by rw [set_get (by omega)]; exact h.c19,by rw [set_get (by omega)]; exact h.c20,by rw [set_get (by omega)]; exact h.c21,by rw [set_get (by omega)]; exact h.c22,by rw [set_get (by omega)]; exact h.c23,by rw [set_get (by omega)]; exact h.c24,by rw [set_get (by omega)]; exact h.c25,by rw [set_get (by omega)]; exact h.c26,by rw [set_get (by omega)]; exact h.c27⟩
theorem WC.setRd (h:WC cs code inp m mc xc cc) (n:Nat):WC (cs.set 18 (.d (.int .i64 (n:Nat)))) code inp { m with rd:=n } mc xc cc :=
 ⟨by simp [h.len],by rw [set_get (by omega)]; exact h.c0,h.rl,fun k hk=>by rw [set_get (by omega)]; exact h.rg k hk,by rw [set_get (by omega)]; exact h.c17,set_same (by rw [h.len]; decide),by rw [set_get (by omega)]; exact h.c19,by rw [set_get (by omega)]; exact h.c20,by rw [set_get (by omega)]; exact h.c21,by rw [set_get (by omega)]; exact h.c22,by rw [set_get (by omega)]; exact h.c23,by rw [set_get (by omega)]; exact h.c24,by rw [set_get (by omega)]; exact h.c25,by rw [set_get (by omega)]; exact h.c26,by rw [set_get (by omega)]; exact h.c27⟩
theorem WC.setSteps (h:WC cs code inp m mc xc cc) (n:Nat):WC (cs.set 20 (.d (.int .i64 (n:Nat)))) code inp { m with steps:=n } mc xc cc :=
 ⟨by simp [h.len],by rw [set_get (by omega)]; exact h.c0,h.rl,fun k hk=>by rw [set_get (by omega)]; exact h.rg k hk,by rw [set_get (by omega)]; exact h.c17,by rw [set_get (by omega)]; exact h.c18,by rw [set_get (by omega)]; exact h.c19,set_same (by rw [h.len]; decide),by rw [set_get (by omega)]; exact h.c21,by rw [set_get (by omega)]; exact h.c22,by rw [set_get (by omega)]; exact h.c23,by rw [set_get (by omega)]; exact h.c24,by rw [set_get (by omega)]; exact h.c25,by rw [set_get (by omega)]; exact h.c26,by rw [set_get (by omega)]; exact h.c27⟩
theorem WC.setFin (h:WC cs code inp m mc xc cc) (n:Nat):WC (cs.set 21 (.d (.int .i64 (n:Nat)))) code inp { m with fin:=n } mc xc cc :=
 ⟨by simp [h.len],by rw [set_get (by omega)]; exact h.c0,h.rl,fun k hk=>by rw [set_get (by omega)]; exact h.rg k hk,by rw [set_get (by omega)]; exact h.c17,by rw [set_get (by omega)]; exact h.c18,by rw [set_get (by omega)]; exact h.c19,by rw [set_get (by omega)]; exact h.c20,set_same (by rw [h.len]; decide),by rw [set_get (by omega)]; exact h.c22,by rw [set_get (by omega)]; exact h.c23,by rw [set_get (by omega)]; exact h.c24,by rw [set_get (by omega)]; exact h.c25,by rw [set_get (by omega)]; exact h.c26,by rw [set_get (by omega)]; exact h.c27⟩
theorem WC.setOut (h:WC cs code inp m mc xc cc) (c:C) (o:Str):WC (cs.set 22 (c)) code inp { m with out:=o } mc c cc :=
 ⟨by simp [h.len],by rw [set_get (by omega)]; exact h.c0,h.rl,fun k hk=>by rw [set_get (by omega)]; exact h.rg k hk,by rw [set_get (by omega)]; exact h.c17,by rw [set_get (by omega)]; exact h.c18,by rw [set_get (by omega)]; exact h.c19,by rw [set_get (by omega)]; exact h.c20,by rw [set_get (by omega)]; exact h.c21,set_same (by rw [h.len]; decide),by rw [set_get (by omega)]; exact h.c23,by rw [set_get (by omega)]; exact h.c24,by rw [set_get (by omega)]; exact h.c25,by rw [set_get (by omega)]; exact h.c26,by rw [set_get (by omega)]; exact h.c27⟩
end
def cntC (l:List Int):List C:=l.map fun n=>.d (.int .i64 n)
structure Wn (gr:Nat) (code:List Nat) (inp:Str) (m:M) (g:Nat → Nat) (ob:Obs):Prop where
 gen:g 13 = gr
 obj:∃ cs mi xc cnt,ob 13 = some cs ∧ WC cs code inp m (.osl mi (g mi) 1 0 m.mem.length) xc (.osl 47 (g 47) 1 0 code.length) ∧ (mi = 24 ∨ mi = 27) ∧ ob mi = some (wordC m.mem) ∧ ob 47 = some (cntC cnt) ∧ cnt.length = code.length ∧
  (xc = .osl 38 (g 38) 1 0 m.out.length ∧ ob 38 = some (byteC m.out))
end Go.Proofs.YtfcgadnbdcnnlabGreatDoor

namespace Go.Proofs.YtfcgadnbdcnnlabGreatDoor
open Go Go.Am Go.Asm Go.Mach
def FrW (g:Nat → Nat) (ob:Obs) (g':Nat → Nat) (ob':Obs):Prop:=∀ i,i < 3000 → i ≠ 13 → i ≠ 24 → i ≠ 27 → i ≠ 47 → i ≠ 38 → g' i = g i ∧ ob' i = ob i
theorem Wn.cells {gr:Nat} {code:List Nat} {inp:Str} {m m':M} {g g':Nat → Nat} {ob ob':Obs} (h:Wn gr code inp m g ob) {cs':List C} (hg:∀ i,(i = 13 ∨ i = 24 ∨ i = 27 ∨ i = 47 ∨ i = 38) → g' i = g i) (ho:∀ i,(i = 24 ∨ i = 27 ∨ i = 47 ∨ i = 38) → ob' i = ob i)
  (hc:ob' 13 = some cs') (hm:m'.mem = m.mem) (hx:m'.out = m.out) (hr:∀ cs mc xc cc,ob 13 = some cs → WC cs code inp m mc xc cc → WC cs' code inp m' mc xc cc):Wn gr code inp m' g' ob':=by
 obtain ⟨h1,cs,mi,xc,cnt,h2,h3,h4,h5,h6,h7,h8⟩:=h
 have hmi:g' mi = g mi ∧ ob' mi = ob mi:=⟨hg mi (by omega),ho mi (by omega)⟩
 refine ⟨by rw [hg 13 (by decide)]; exact h1,cs',mi,xc,cnt,hc,?_,h4,by rw [hmi.2,hm]; exact h5,by rw [ho 47 (by decide)]; exact h6,h7,by rw [hg 38 (by decide),ho 38 (by decide),hx]; exact h8⟩
 rw [hmi.1,hm,hg 47 (by decide)]
 exact hr cs _ _ _ h2 h3
theorem Wn.same {gr:Nat} {code:List Nat} {inp:Str} {m:M} {g g':Nat → Nat} {ob ob':Obs} (h:Wn gr code inp m g ob) (hg:∀ i,(i = 13 ∨ i = 24 ∨ i = 27 ∨ i = 47 ∨ i = 38) → g' i = g i) (ho:∀ i,(i = 13 ∨ i = 24 ∨ i = 27 ∨ i = 47 ∨ i = 38) → ob' i = ob i):Wn gr code inp m g' ob':=by
 obtain ⟨cs,_,_,_,h2,_⟩:=id h.obj
 exact h.cells (cs':=cs) hg (fun i hi=>ho i (by omega)) (by rw [ho 13 (by decide)]; exact h2) rfl rfl fun cs2 _ _ _ e r=>by rw [h2] at e; cases e; exact r
theorem Wn.done {gr:Nat} {code:List Nat} {inp:Str} {m m':M} {g g':Nat → Nat} {ob ob':Obs} {cs cs':List C} (h:Wn gr code inp m g ob) (ho:ob 13 = some cs) (hg':∀ i,(i < 3000 ∨ i = 38) → g' i = g i) (ho':∀ i,(i ≠ 13 ∧ (i < 3000 ∨ i = 38)) → ob' i = ob i)
  (hc:ob' 13 = some cs') (hm:m'.mem = m.mem) (hx:m'.out = m.out) (hr:∀ mc xc cc,WC cs code inp m mc xc cc → WC cs' code inp m' mc xc cc):FrW g ob g' ob' ∧ Wn gr code inp m' g' ob' :=
 ⟨fun i hi h13 _ _ _ _=>⟨hg' i (.inl hi),ho' i ⟨h13,.inl hi⟩⟩,h.cells (fun i hi=>hg' i (by omega)) (fun i hi=>ho' i (by omega)) hc hm hx fun cs2 mc xc cc e r=>by rw [ho] at e; cases e; exact hr mc xc cc r⟩
set_option maxHeartbeats 8000000 in
theorem set_W {gr:Nat} {code:List Nat} {inp:Str} {m:M} {g:Nat → Nat} {ob:Obs} (h:Wn gr code inp m g ob) (a x:Nat) (ha:a < 16) (hpc:m.pc ≤ 4294967296000000) :
  FunR Tryz.prog 117 [.one (.ptr 13 gr 0),iv .i64 a,iv .u32 x] g ob (fun _ g' ob'=>FrW g ob g' ob' ∧ Wn gr code inp (m.set a x) g' ob'):=by
 refine fun_of_wp 4000 Tt_ok mixed Tryz.func117 rfl (by rfl) [] rfl (by kernel_rfl) (by simp [Tryz.ntmps117]) ?_
 obtain ⟨hg,cs,mi,xc,cnt,ho,hr,-⟩:=id h
 have hws:=wrap_succ (k:=m.pc) (by omega)
 have hl:=hr.len
 have ha0:(0:Int) ≤ (a:Int):=by omega
 have hset:(cs.set (1 + a) (.d (.int .u32 (x:Nat))))[0]? = some (.d (.int .i64 (m.pc:Nat))):=by rw [set_get (by omega)]; exact hr.c0
 simp only [go_sem,↓reduceIte,hg,ho,ha0,hset,hws]
 refine ⟨by omega,by omega,?_⟩
 exact ⟨by simp only [List.length_set]; omega,retF_of (.inr rfl) (h.done ho (fun i hi=>by (try simp only [upd]); repeat (rw [if_neg (by omega)]); try rfl) (fun i hi=>by (try simp only [upd]); repeat (rw [if_neg (by omega)]); try rfl) (by simp [upd] <;> rfl) rfl rfl fun _ _ _ hr=>(hr.setReg ha x).setPc (m.pc + 1))⟩
set_option maxHeartbeats 8000000 in
theorem jump_W {gr:Nat} {code:List Nat} {inp:Str} {m:M} {g:Nat → Nat} {ob:Obs} (h:Wn gr code inp m g ob) (b:Bool) (c:Nat) (hpc:m.pc ≤ 4294967296000000) :
  FunR Tryz.prog 119 [.one (.ptr 13 gr 0),bv b,iv .i64 c] g ob (fun _ g' ob'=>FrW g ob g' ob' ∧ Wn gr code inp { m with pc:=if b = true then c else m.pc + 1 } g' ob'):=by
 refine fun_of_wp 4000 Tt_ok mixed Tryz.func119 rfl (by rfl) [] rfl (by kernel_rfl) (by simp [Tryz.ntmps119]) ?_
 obtain ⟨hg,cs,mi,xc,cnt,ho,hr,-⟩:=id h
 have hws:=wrap_succ (k:=m.pc) (by omega)
 have hl:=hr.len
 cases b
 ·simp only [go_sem,↓reduceIte,hg,ho,hr.c0,hws]
  exact ⟨by omega,retF_of (.inr rfl) (h.done ho (fun i hi=>by (try simp only [upd]); repeat (rw [if_neg (by omega)]); try rfl) (fun i hi=>by (try simp only [upd]); repeat (rw [if_neg (by omega)]); try rfl) (by simp [upd] <;> rfl) rfl rfl fun _ _ _ hr=>hr.setPc (m.pc + 1))⟩
 ·simp only [go_sem,↓reduceIte,hg,ho]
  exact ⟨by omega,retF_of (.inr rfl) (h.done ho (fun i hi=>by (try simp only [upd]); repeat (rw [if_neg (by omega)]); try rfl) (fun i hi=>by (try simp only [upd]); repeat (rw [if_neg (by omega)]); try rfl) (by simp [upd] <;> rfl) rfl rfl fun _ _ _ hr=>hr.setPc c)⟩
end Go.Proofs.YtfcgadnbdcnnlabGreatDoor

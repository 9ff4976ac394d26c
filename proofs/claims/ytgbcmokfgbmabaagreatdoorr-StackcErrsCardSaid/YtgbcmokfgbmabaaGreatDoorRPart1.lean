/- A part of the proof; no conditions. -/
import Derived.KernelRfl
import Derived.StillTail
import Derived.Deep.Quiet
set_option linter.unusedSimpArgs false
set_option linter.unusedVariables false
namespace Go
section
theorem a6 {P:Prop} (h:P:=by omega):P:=h
theorem a7 {P:Prop} (h:P:=by simp):P:=h
theorem a8 {P:Prop} (h:P:=by decide):P:=h
theorem b9 {P:Prop} (h:P:=by decide +kernel):P:=h
theorem c8 {P:Prop} (h:P:=by kernel_rfl):P:=h
theorem c9 {P:Prop} (h:P:=by rfl):P:=h
theorem j0 {P:Prop} (h:P:=by assumption):P:=h
abbrev j4:=@List.length_map
abbrev j5:=@List.length_append
abbrev j6:=@List.length_cons
abbrev j7:=@List.length_nil
abbrev j8:=@Nat.le_refl
abbrev j9:=@Eq.trans
abbrev l0:=@List.mem_of_getElem?
abbrev l4:=@List.getElem?_eq_some_iff
abbrev l5:=@List.map_cons
abbrev l6:=@Bool.and_eq_true
abbrev l7:=@List.take_of_length_le
abbrev l8:=@List.append_nil
abbrev l9:=@eq_true
abbrev s5:=@List.append_assoc
abbrev s6:=@List.getElem?_cons_succ
abbrev s7:=@Bool.true_and
abbrev s9:=@Option.some.injEq
abbrev u7:=@List.eq_nil_of_length_eq_zero
abbrev v7:=@Array.getD_eq_getD_getElem?
abbrev v8:=@List.map_nil
abbrev w7:=@True.intro
abbrev w8:=@List.getElem?_cons_zero
abbrev w9:=@List.getElem?_eq_getElem
abbrev x6:=@List.drop_of_length_le
abbrev x7:=@List.all_eq_true
abbrev x8:=@List.getElem?_toArray
abbrev x9:=@List.getElem?_map
abbrev y7:=@decide_eq_false
abbrev y8:=@Option.map_some
abbrev y9:=@Bool.false_and
abbrev z6:=@List.mem_cons
abbrev z7:=@Option.getD_some
abbrev z8:=@List.nil_append
abbrev A0:=@Array.getElem?_eq_getElem
abbrev A1:=@List.map_append
abbrev A2:=@List.cons_append
abbrev A3:=@Ne.symm
abbrev A4:=@List.not_mem_nil
abbrev A5:=@List.drop_eq_getElem_cons
abbrev A6:=@decide_eq_true_eq
abbrev A7:=@decide_eq_true
abbrev A8:=@Int.toNat_natCast
abbrev A9:=@if_false
abbrev B1:=@Option.isSome_some
abbrev B3:=@Bool.and_false
abbrev B4:=@List.take_add_one
abbrev B5:=@Nat.le_trans
abbrev B6:=@if_true
abbrev B7:=@List.getElem?_of_mem
abbrev B8:=@Array.getElem?_eq_some_iff
abbrev B9:=@List.mem_append
abbrev C0:=@Nat.zero_add
abbrev C1:=@Nat.add_assoc
abbrev C2:=@List.length_take
abbrev C3:=@Bool.false_eq_true
abbrev C4:=@List.mem_singleton
abbrev C5:=@List.drop_zero
abbrev C6:=@List.sum_cons
abbrev C7:=@Array.getElem?_replicate
abbrev C8:=@Option.isSome_none
abbrev C9:=@List.getD_eq_getElem?_getD
abbrev D0:=@List.length_set
abbrev D1:=@List.flatten_cons
abbrev D2:=@List.getElem?_set
abbrev D3:=@List.flatMap_cons
abbrev D4:=@List.all_cons
abbrev D5:=@List.mem_range
abbrev D6:=@List.getElem?_eq_none
abbrev D7:=@Bool.and_assoc
abbrev D8:=@List.replicate_succ
abbrev D9:=@Array.getElem?_append_left
abbrev E0:=@List.length_drop
abbrev E3:=@or_false
abbrev E4:=@List.drop_length
abbrev E5:=@Nat.add_mul
abbrev E6:=@Int.le_refl
abbrev E7:=@Option.some.inj
abbrev E8:=@List.getElem?_append_right
abbrev E9:=@List.take_succ_cons
abbrev F0:=@Array.getElem_mem_toList
abbrev F1:=@Nat.lt_of_lt_of_le
abbrev F2:=@List.eq_of_mem_replicate
abbrev F3:=@Array.getElem?_append_right
abbrev F6:=@List.take_append_drop
abbrev F7:=@List.mem_map
abbrev F8:=@Option.map_none
abbrev F9:=@Bool.or_eq_true
abbrev G0:=@List.foldl_cons
abbrev G1:=@List.take_length
abbrev G2:=@Prod.mk.injEq
abbrev G3:=@List.getElem?_append_left
abbrev G4:=@List.set_cons_zero
abbrev G5:=@List.getElem?_drop
abbrev G6:=@List.all_append
abbrev G7:=@Array.getElem?_toList
abbrev G8:=@Bool.not_eq_true'
abbrev G9:=@Nat.lt_of_le_of_lt
abbrev H0:=@List.getElem?_take
abbrev I0:=@Option.map_eq_some_iff
abbrev I1:=@List.forall_mem_append
abbrev I2:=@Array.ext'
abbrev I3:=@List.contains_iff_mem
abbrev I4:=@List.singleton_append
abbrev I5:=@Nat.le_of_ble_eq_true
abbrev I6:=@List.length_replicate
abbrev I7:=@List.mem_mapIdx
abbrev I8:=@beq_iff_eq
abbrev I9:=@List.mem_cons_self
abbrev J0:=@Option.toList_some
abbrev J1:=@Option.bind_some
abbrev J2:=@Bool.not_false
abbrev J3:=@Array.getElem?_eq_none
abbrev J4:=@List.takeWhile_cons
abbrev J5:=@List.set_append_right
abbrev J6:=@Bool.and_true
abbrev J7:=@List.getElem?_append
abbrev J8:=@List.length_eq_zero_iff
abbrev J9:=@decide_false
abbrev K7:=@Nat.add_zero
abbrev K8:=@List.take_zero
abbrev K9:=@List.mem_or_eq_of_mem_set
abbrev L0:=@List.sum_append
abbrev L1:=@and_true
abbrev L2:=@Nat.mul_le_mul_right
abbrev L3:=@List.mem_of_mem_drop
abbrev L4:=@Option.isSome_iff_exists
abbrev L5:=@Array.getElem?_setIfInBounds_ne
abbrev L6:=@Int.toNat_of_nonneg
abbrev L7:=@List.replicate_zero
abbrev L8:=@List.getElem_mem
abbrev L9:=@List.mapIdx_cons
abbrev M0:=@Nat.mul_one
abbrev M1:=@Nat.zero_le
abbrev M3:=@Nat.sub_self
abbrev M4:=@List.filter_eq_nil_iff
abbrev M5:=@Array.getElem?_setIfInBounds
abbrev M6:=@List.dropLast_concat_getLast
abbrev M7:=@List.length_singleton
abbrev M8:=@not_false_eq_true
abbrev M9:=@of_decide_eq_true
abbrev N0:=@List.ext_getElem?
abbrev N1:=@List.reverse_cons
abbrev N2:=@Array.getElem?_setIfInBounds_self_of_lt
abbrev N3:=@List.isPrefixOf_iff_prefix
abbrev N4:=@List.getElem?_mapIdx
abbrev N5:=@Array.length_toList
abbrev N6:=@List.flatMap_append
abbrev N7:=@Bool.eq_iff_iff
abbrev N8:=@List.nodup_cons
abbrev N9:=@List.set_cons_succ
abbrev O0:=@Array.all_eq_true'
abbrev O2:=@UInt8.toNat_ofNat'
abbrev O6:=@List.map_replicate
abbrev O7:=@List.getElem?_replicate
abbrev O8:=@not_true_eq_false
abbrev O9:=@List.mapM_cons
abbrev P0:=@List.foldl_append
abbrev P1:=@List.takeWhile_sublist
abbrev P2:=@Nat.mod_eq_of_lt
abbrev P3:=@List.any_eq_true
abbrev P4:=@Array.eq_empty_of_size_eq_zero
abbrev P5:=@Bool.not_true
abbrev P6:=@Array.mem_toList_iff
abbrev P7:=@List.mem_cons_of_mem
abbrev P8:=@List.getElem?_set_ne
abbrev P9:=@List.mem_of_mem_take
abbrev Q0:=@List.cons.injEq
abbrev Q1:=@Nat.le_antisymm
abbrev Q2:=@Int.natCast_mul
abbrev Q3:=@UInt8.toNat_inj
abbrev Q4:=@List.range_succ
abbrev Q5:=@List.getD_cons_succ
abbrev Q6:=@Array.getElem?_push
abbrev Q7:=@List.length_pos_iff
abbrev Q8:=@List.reverse_append
abbrev Q9:=@List.map_map
abbrev R1:=@Nat.le_of_lt
abbrev R2:=@List.sum_nil
abbrev R3:=@List.count_pos_iff
abbrev R4:=@List.drop_drop
abbrev R5:=@List.foldl_nil
abbrev R6:=@BitVec.toNat_ofInt
abbrev R7:=@Int.fdiv_eq_ediv_of_nonneg
abbrev R8:=@Classical.byContradiction
abbrev R9:=@Option.isNone_iff_eq_none
abbrev S7:=@List.mem_of_find?_eq_some
abbrev S8:=@List.getLast?_eq_getElem?
abbrev S9:=@decide_true
abbrev T0:=@Array.getElem_mem
abbrev T1:=@List.mapM_toArray
abbrev T2:=@Bool.false_or
abbrev T3:=@Array.size_setIfInBounds
abbrev T4:=@true_and
abbrev T5:=@Option.getD_none
abbrev T6:=@List.countP_cons
abbrev T7:=@Nat.le_mul_of_pos_right
abbrev T8:=@Nat.add_sub_cancel_left
abbrev T9:=@Nat.lt_or_ge
abbrev U0:=@List.head?_eq_getElem?
abbrev U1:=@List.map_set
abbrev U2:=@List.mem_filter
abbrev U3:=@Array.getElem?_modify
abbrev U4:=@Array.mem_of_getElem?
abbrev U5:=@List.countP_replicate
abbrev U6:=@List.nodup_nil
abbrev U7:=@cond_false
abbrev U8:=@Nat.mod_lt
abbrev U9:=@or_true
abbrev Vr:=@true_or
abbrev Vs:=@cond_true
theorem Vt {P:Prop}(h:P:=by
 simp only[go_sem]
 refine⟨_,ag.refl _,?_⟩
 simp only[go_sem]
 exact aZ.nil (fun i hi=>⟨nt ((fr i hi).1),nt ((fr i hi).2)⟩) (rs':=[bv false]) ⟨_,_,rfl,.one (.d _),rfl⟩ ⟨rfl,rfl,rfl⟩):P:=h
theorem Vu {P:Prop}(h:P:=by
 cases yt
 ·simp only[y9,B3] at hza
  subst hza
  exact Vt
 simp only[go_sem,q0,q4,o4]
 refine bQ aa rfl hel (by simp only[go_sem];rfl) (B+65) a6 (fun i hi=>nt (hfr i a6)) ((E.mono hB fr).mono hB fun i hi=>⟨nu,nu⟩) ?_
 cases ye
 ·simp only[y9,B3] at hza
  subst hza
  exact Vt
 simp only[s7] at hza
 simp only[go_sem,q11,hw]
 refine ah (m-1) a6 ⟨k+1,a6,hza,?_⟩
 simp only[go_sem,q0,q4,q9,q10,o4]
 exact⟨fun j hj=>⟨nt ((fr j hj).1),nt ((fr j hj).2)⟩,fun j hj=>nt (hfr j hj)⟩):P:=h
theorem Vv {P:Prop}(h:P:=by
 refine bQ aa rfl (hes 1) (by simp only[go_sem];rfl) (B+65) a6 (fun i hi=>nt (hfr i a6)) ((E.mono hB fr).mono hB fun i hi=>⟨nu,nu⟩) ?_
 cases hye2:cl fs 1 es
 ·rw[hye2] at hza
  simp only[y9,B3] at hza
  subst hza
  exact Vt
 rw[hye2] at hza
 simp only[s7] at hza
 simp only[go_sem,q0,q4,o4]
 refine bQ aa rfl hth (by simp only[go_sem];rfl) (B+65) a6 (fun i hi=>nt (hfr i a6)) ((E.mono hB fr).mono hB fun i hi=>⟨nu,nu⟩) ?_
 exact Vu):P:=h
theorem Vw {P:Prop}(h:P:=by
 refine dY (f:=272) rfl (by simp only[go_sem]) (by simp only[go_sem];exact gf _) (by simp only[go_sem];rfl) ?_
 rintro _ rfl
 simp only[go_sem]
 exact⟨_,dN rfl,rfl⟩):P:=h
theorem Vx {P:Prop}(h:P:=by
 refine this.mono fun e w' hE=>?_
 rcases hE with⟨v,r,g',ob',β',he,hR,hv,h1,h2,h3⟩|⟨ch,g',ob',β',he,hΨ,h1,h2,h3⟩
 ·subst he
  obtain⟨k1,k2⟩:=gK hr hdst hv h1 h2 h3
  exact⟨k1.defers,hn _ β' _ w' ⟨r,g',ob',hR,rfl⟩ k1 (hΦ _ _ _ _ _ _ _ hφ k2)⟩
 ·subst he
  have hk:eu b₀ β s.gen s.obj w β' g' ob' w':=h3.keep
  have ht:Tr b₀ β s w β' ⟨s.f,g',ob'⟩ w':=⟨h3.size,h3.old,hk,h3.os⟩
  exact hx' ch ⟨s.f,g',ob'⟩ β' a w' (hx _ _ _ hΨ) ⟨hr.defers,hr.size,fun i=>ae.keep hk _ (hr.f i),h1,h2,B5 hr.base h3.size⟩ (hΦ _ _ _ _ _ _ _ hφ ht)):P:=h
theorem Vy {P:Prop}(h:P:=by (try simp only[upd]);(repeat rw[if_neg (by omega)])):P:=h
theorem Vz {P:Prop}(h:P:=by
 intro r g2 ob2 S2 K2
 simp only[go_sem]
 refine⟨_,ag.refl _,?_⟩
 simp only[go_sem]
 exact S.pack S2 (K0.trans (ce.down (K1.trans K2) a6)) (by simp only[am,aj,al,Emit.jL,Emit.ks,j5,j6,j7,s5,l8,z8]) (by simp only[am,aj,al,Emit.jL,Emit.ks,j5,j6,j7,s5,l8,z8]) (rs':=[]) rfl):P:=h
theorem VA {P:Prop}(h:P:=by
 refine⟨_,ag.refl _,?_⟩
 simp only[go_sem]
 exact aZ.nil (fun i hi=>⟨nu,nu⟩) (rs':=[iv .i64 0]) ⟨_,_,rfl,.one (.d _),rfl⟩ ⟨rfl,rfl,rfl⟩):P:=h
theorem VB {P:Prop}(h:P:=by
 have hargs:∀l:List Operand,(l.map s.ev).all ea=true→RVs (Imm b₀ β s.obj w) w (l.map s.ev) (l.map a.eval):=by
  intro l
  induction l with
  |nil=>intro _;simp only[v8,RVs]
  |cons x l ih=>
    intro h
    simp only[l5,D4,l6] at h
    simp only[l5,RVs]
    exact⟨_,_,rfl,ae.data h.1 (hr.ev x),ih h.2⟩
 have:=hp.2 (Imm b₀ β s.obj w) w (args.toList.map a.eval) (hG _ _ _ _ hφ).2 (fun _ h=>h.1) (hargs _ hd)
 rw[show (args.toList.map a.eval).toArray=args.map a.eval from I2 a7] at this
 refine this.mono fun e w' ⟨v,r,he,hR,hs,hh,hos,hv⟩=>?_
 subst he
 obtain⟨g1,g2⟩:=hr.grow hs hh hos
 have g3:=g2.trans (Tr.same (St.put_gen s op.dst r) (St.put_obj s op.dst r) rfl)
 have h1:=g1.put hdst (RV.rep r (RV.mono (fun b hb=>⟨sj hr (J:=fun b=>Imm b₀ β s.obj w b∨b≤gb) (fun b h=>h.elim id (sP hr (hG _ _ _ _ hφ))) hb,rfl⟩) r hv))
 exact⟨h1.defers,hn _ β _ w' ⟨r,hR,rfl⟩ h1 (hΦ _ _ _ _ _ _ _ hφ g3)⟩):P:=h
theorem VC {P:Prop}(h:P:=by
 rw[hdr2,bS] at hzb
 have hkn:=BU (fs:=fs) (gr:=gr) (gm:=gm) (szE x2) x2 (j8 _) a6
 obtain⟨y,hy⟩:∃y,fv fs x2=y:=⟨_,rfl⟩
 rw[hy] at hzb hkn
 obtain⟨kd1,op1,num1,name1,kids1⟩:=x2
 have hE2:exD (.mk kd1 op1 num1 name1 kids1)=[.int .i64 kd1,.int .i64 op1,.int .u32 num1,.str name1,.sl (kids1.map exD)]:=by simp only[exD,aw]
 simp only[go_sem,q0,q33,q34,q35,hki2,hk02,he2,hE2]
 refine bQ aa rfl hkn (by simp only[go_sem,exV,hE2,l5,v8]) (B+57) a6 (fun i hi=>nt (hfr i a6)) ((E.mono hB fr).mono hB fun i hi=>⟨nu,nu⟩) ?_
 cases y
 ·simp only[y9] at hzb
  subst hzb
  exact Vt
 ·simp only[s7] at hzb
  simp only[go_sem,q35,hw2]
  refine ah (m2-1) a6 ⟨n+1,a6,hzb,?_⟩
  simp only[go_sem,q0,q6,q9,q10,q11,q33,q34,o6]
  exact⟨fun j hj=>⟨nt ((fr j hj).1),nt ((fr j hj).2)⟩,fun j hj=>nt (hfr j hj)⟩):P:=h
theorem VD {P:Prop}(h:P:=by
 have:(vs.toArray++Array.replicate (fn.ntmps-vs.toArray.size) undef).getD i undef=undef:=by
  rw[v7,F3 (by simp;omega)]
  simp[C7]
  split <;> rfl
 rw[this]
 exact co):P:=h
theorem VE {P:Prop}(h:P:=by simp only[go_sem]):P:=h
theorem VF {P:Prop}(h:P:=by
 rw[hdr,bS] at hza
 have hih:=ih (szE e) a6 e (j8 _) a6
 obtain⟨y,hy⟩:∃y,fv fs e=y:=⟨_,rfl⟩
 rw[hy] at hza hih
 obtain⟨kd1,op1,num1,name1,kids1⟩:=e
 have hE:exD (.mk kd1 op1 num1 name1 kids1)=[.int .i64 kd1,.int .i64 op1,.int .u32 num1,.str name1,.sl (kids1.map exD)]:=by simp only[exD,aw]
 simp only[go_sem,q0,q9,q10,q11,hki,hk0,he,hE]
 refine bQ aa rfl hih (by simp only[go_sem,exV,hE,l5,v8]) (B+36) a6 (fun i hi=>nt (hfr i a6)) ((E.mono hB fr).mono hB fun i hi=>⟨nu,nu⟩) ?_
 cases y
 ·rw[y9] at hza
  subst hza
  exact Vt
 ·rw[s7] at hza
  simp only[go_sem,q11,hw]
  refine ah (m-1) a6 ⟨k+1,a6,hza,?_⟩
  simp only[go_sem,q0,q9,q10]
  exact⟨fun j hj=>⟨nt ((fr j hj).1),nt ((fr j hj).2)⟩,fun j hj=>nt (hfr j hj)⟩):P:=h
theorem VG {P:Prop}(h:P:=by
 simp only[Oper.upon]
 have hargs:∀l:List Operand,(l.map s.ev).all ea=true→RVs (Imm b₀ β s.obj w) w (l.map s.ev) (l.map a.eval):=by
  intro l
  induction l with
  |nil=>intro _;simp only[v8,RVs]
  |cons x l ih=>
    intro h
    simp only[l5,D4,l6] at h
    simp only[l5,RVs]
    exact⟨_,_,rfl,ae.data h.1 (hr.ev x),ih h.2⟩
 have:=hp.2 (Imm b₀ β s.obj w) w (args.toList.map a.eval) (fun _ h=>h.1) (hargs _ hd)
 rw[show (args.toList.map a.eval).toArray=args.map a.eval from I2 a7] at this
 refine this.mono fun e w' ⟨v,r,he,hR,hs,hh,hos,hv⟩=>?_
 subst he
 obtain⟨g1,g2⟩:=hr.grow hs hh hos
 refine hn _ β _ w' ⟨r,hR,rfl⟩ (g1.put hdst (RV.rep r (RV.mono (fun b hb=>⟨sj hr (fun _ h=>h) hb,rfl⟩) r hv))) (g2.trans (Tr.same (St.put_gen _ _ _) (St.put_obj _ _ _) rfl))):P:=h
theorem VH {P:Prop}(h:P:=by
 have:∀(es:List (List D)) (_:∀e∈es,e.length=sz) i,es[i]? = some e→es.flatten[i*sz+j]? = some x:=by
  intro es
  induction es with
  |nil=>intro _ i h;simp at h
  |cons e' es ihe=>
    intro hs i h
    have hl:=hs e' a7
    cases i with
    |zero=>
      simp at h
      subst h
      rw[D1,G3 (by simpa using(l4.1 hx).1)]
      simpa using hx
    |succ i=>
      rw[D1,E8 (by rw[hl,E5];omega),hl,show (i+1)*sz+j-sz=i*sz+j by rw[E5];omega]
      exact ihe (fun e h=>hs e (by simp[h])) i (by simpa using h)
 exact this es hsz i he):P:=h
theorem VI {P:Prop}(h:P:=by
 obtain rfl:z=false:=by
  have:¬el=[]:=fun e=>by rw[e] at hel;exact absurd hel a8
  rw[←hz];simp[bX,this]
 simp only[go_sem,hlv,j4,hel]):P:=h
theorem VJ {P:Prop}(h:P:=by
 subst hza
 simp only[go_sem,q10,q11,hki]
 refine⟨_,ag.refl _,?_⟩
 simp only[go_sem]
 exact aZ.nil fr (rs':=[bv true]) ⟨_,_,rfl,.one (.d _),rfl⟩ ⟨rfl,rfl,rfl⟩):P:=h
theorem VK {P:Prop}(h:P:=by exact⟨fun j hj=>⟨nt ((fr j hj).1),fun h5 h6=>nt ((fr j hj).2 h5 h6)⟩,fun j hj=>nt (hfr j hj)⟩):P:=h
theorem VL {P:Prop}(h:P:=by
 have e1:=congrFun hset
 simp only[upd] at e1
 rw[e1] at hj ⊢
 by_cases hej:e.on=i
 ·rw[if_pos hej]
 ·rw[if_neg hej]
  by_cases hji:j=i
  ·subst hji
   rw[ho] at hoj
   cases hoj
   exact hedge e he hb
  ·rw[if_neg hji] at hj
   exact hid j o' hj hoj e he hb):P:=h
theorem VM {P:Prop}(h:P:=by
 intro g2 ob2 p2 q2 r2
 simp only[go_sem]
 refine bt (fun i=>decide (K≤i)) ?_
 exact⟨rfl,hfin _ rfl _ _ p2⟩):P:=h
theorem VN {P:Prop}(h:P:=by
 rw[hf] at mo1
 simp only[y8,thD] at mo1
 simp only[go_sem,n1,n2,n3,jp,hcm,hm,C8,B1,mo1,hcu]
 refine⟨_,ag.refl _,?_⟩
 simp only[go_sem]
 refine aZ.two (ca:=M) (cb:=[.d (.bool false)]) (fun i hi ha hb=>⟨by (try simp only[upd]);(repeat rw[if_neg (by omega)]),by (try simp only[upd]);(repeat rw[if_neg (by omega)])⟩) (by (try simp only[upd]);(repeat rw[if_neg (by omega)])) (by (try simp only[upd]);(repeat rw[if_neg (by omega)])) (by simp only[upd];(repeat rw[if_neg (by omega)]);exact hm) (by simp[upd]) hd.low Dj (rs':=[]) rfl ⟨rfl,M,mo.old hf,hd,by rw[hf];simp⟩):P:=h
theorem VO {P:Prop}(h:P:=by
 intro r g4 ob4 S4 K4
 simp only[go_sem]
 refine⟨_,ag.refl _,?_⟩
 simp only[go_sem]
 exact S.pack S4 (K0.trans (ce.down (K1.trans (K2.trans (K3.trans K4))) a6)) (by simp only[am,aj,al,Emit.jL,Emit.ks,j5,j6,j7,s5,l8,z8]) (by simp only[am,aj,al,Emit.jL,Emit.ks,j5,j6,j7,s5,l8,z8]) (rs':=[]) rfl):P:=h
theorem VP {P:Prop}(h:P:=by
 obtain rfl:z=false:=by
  have:¬th=[]:=fun e=>by rw[e] at hth;exact absurd hth a8
  rw[←hz];simp[bX,this]
 simp only[go_sem,hlv,j4,hel,hth]):P:=h
theorem VQ {P:Prop}(h:P:=by exact fun _ _ _ h=>h.elim):P:=h
theorem VR {P:Prop}(h:P:=by
 cases yt
 ·simp only[y9] at hzb
  subst hzb
  exact Vt
 simp only[go_sem,q0,q6,o6]
 refine bQ aa rfl hel (by simp only[go_sem];rfl) (B+57) a6 (fun i hi=>nt (hfr i a6)) ((E.mono hB fr).mono hB fun i hi=>⟨nu,nu⟩) ?_
 cases ye
 ·simp only[y9,B3] at hzb
  subst hzb
  exact Vt
 simp only[s7] at hzb
 simp only[go_sem,q11,hw]
 refine ah (m-1) a6 ⟨k+1,a6,hzb,?_⟩
 simp only[go_sem,q0,q9,q10]
 exact⟨fun j hj=>⟨nt ((fr j hj).1),nt ((fr j hj).2)⟩,fun j hj=>nt (hfr j hj)⟩):P:=h
theorem VS {P:Prop}(h:P:=by
 simp only at q0 q6 q9 q10 q11 q33 q34 q35 o6 fr hfr
 have hw2:=ab (k:=n) a6
 by_cases hlt2:n<es.length
 ·have hki2:(n:Int)<(es.length:Int):=a6
  have hk02:(0:Int)≤(n:Int):=a6
  obtain⟨x2,he2⟩:=getq hlt2
  have hsz2:=Src.Kv (l0 he2)
  have hdr2:es.drop n=x2::es.drop (n+1):=by rw[A5 hlt2,(l4.1 he2).2]
  exact VC
 have hki2:¬(n:Int)<(es.length:Int):=a6
 obtain rfl:n=es.length:=a6
 rw[E4,bS,s7] at hzb
 simp only[go_sem,q0,q6,q34,q35,hki2,o6]
 refine bQ aa rfl hth (by simp only[go_sem];rfl) (B+57) a6 (fun i hi=>nt (hfr i a6)) ((E.mono hB fr).mono hB fun i hi=>⟨nu,nu⟩) ?_
 exact VR):P:=h
theorem VT {P:Prop}(h:P:=by
 refine ak (fun m st=>∃n:Nat,m+n=es.length∧(bS fs (es.drop n)&&(yt&&ye)&&bF fs (l.drop (k+1)))=z∧st.f 0=.one (.ptr 1012 gr 0)∧st.f 6=.one (.ptr (B+6) (st.gen (B+6)) 0)∧st.f 11=.one (.d (.sl (l.map smD)))∧st.f 12=iv .i64 l.length∧st.f 13=iv .i64 k∧st.f 33=.one (.d (.sl (es.map exD)))∧st.f 34=iv .i64 es.length∧st.f 35=iv .i64 n∧
   st.obj (B+6)=some [.d (.int .i64 kind),.d (.str name),.d (.sl (es.map exD)),.d (.sl (th.map smD)),.d (.sl (el.map smD))]∧(∀j,j<B→st.gen j=g j∧st.obj j=ob j)∧(∀j,B+57≤j→st.obj j=none)) es.length ?_ ?_
 ·refine⟨0,rfl,by rw[C5];exact hza,?_⟩
  simp only[go_sem,q0,q9,q10,q11,n1,n2]
  exact⟨fun j hj=>⟨nt ((fr j hj).1),nt ((fr j hj).2)⟩,fun j hj=>nt (hfr j hj)⟩
 clear q0 q9 q10 q11 fr hfr or om mM mo1 hgr hgm
 rintro m2 f g1 ob1 ⟨n,hn,hzb,q0,q6,q9,q10,q11,q33,q34,q35,o6,fr,hfr⟩
 exact VS):P:=h
theorem VU {P:Prop}(h:P:=by
 obtain⟨v,h1,h2⟩:=hv.get hx
 have hlt:i<vs.length:=(l4.1 h1).1
 have:(vs.toArray++Array.replicate (fn.ntmps-vs.toArray.size) undef).getD i undef=v:=by
  rw[v7,D9 (by simpa using hlt)]
  simp[h1]
 rw[this]
 simpa only[z7] using h2):P:=h
theorem VV {P:Prop}(h:P:=by
 rintro _ g' ob' ⟨rfl,rfl⟩
 simp only[go_sem,q22,hw]
 refine ah (m-1) a6 ⟨k+1,a6,?_⟩
 simp only[go_sem,q1,q3,q5,q6,q20,q21,e1.1,e13.1,e5.1,e6.1,e1.2,e13.2]
 refine⟨?_,?_,⟨M,rfl,mM⟩,fun j hj=>?_⟩
 ·rw[ki _ he,←D7,h5,iP,hu]
  first|rfl|(simp;done)|(rw[s7];rfl)
 ·rw[ki _ he,h6]
  rfl
 ·(try simp only[upd]);(repeat rw[if_neg (by omega)])
  rw[(fr j (.inr a6)).2]
  (try simp only[upd]);(repeat rw[if_neg (by omega)])
  exact hfr j a6):P:=h
theorem VW {P:Prop}(h:P:=by
 refine⟨a6,?_⟩
 simp only[go_sem,p49,hwj]
 refine ah (m-1) a6 ⟨j+1,a6,?_⟩
 simp only[go_sem,p0,p6,p47,p48,hwj,n1,n3,m1,hg5,gC5]
 refine⟨by rw[hfin _ hpv],X5c.to (fun i hi=>?_) (fun i hi=>⟨?_,?_⟩),fun i hi h1 h2 h3 h4 h5=>⟨?_,?_⟩⟩
 ·exact nt (F5.S.top i hi)
 ·have:i≠B+8:=a6
  exact Vy
 ·have:i≠B+8:=a6
  have:i≠B+37:=a6
  exact Vy
 ·exact nt ((O5 i hi h1 h2 h3 h4 h5).1)
 ·exact nt ((O5 i hi h1 h2 h3 h4 h5).2)):P:=h
theorem VX {P:Prop}(h:P:=by
 have hall:∀i,i<ops.size→listed.getD i true=true:=fun i hi=>by
  have hnf:false∉listed.toList:=fun h=>by
   have:=R3.2 h;omega
  rw[v7,A0 a6]
  simp only[z7]
  cases hq:listed[i]'a6 with
  |true=>rfl
  |false=>exact absurd (hq▸P6.2 (T0 a6)) hnf
 have hrd:Region.ready .any ops listed=[]:=by
  unfold Region.ready
  rw[M4]
  intro i hi
  simp[hall i (D5.1 hi)]
 exact⟨hrd,hQ _ s β a w hI hr hφ ⟨listed,rfl,hsz,hrd⟩⟩):P:=h
theorem VY {P:Prop}(h:P:=by
 intro a2 q2 h2
 have e:=hlook ⟨_,_,h2⟩
 rw[h2] at e
 cases e
 simp only[go_sem,n1,n2]
 exact hK ⟨_,_,h2⟩):P:=h
theorem VZ {P:Prop}(h:P:=by
 intro g2 ob2 p2 q2 r2
 simp only[go_sem]
 refine bt (fun i=>decide (K≤i)) ?_
 exact⟨rfl,hfin _ _ _ p2⟩):P:=h
theorem V0 {P:Prop}(h:P:=by
 refine bQ aa rfl (hes 2) (by simp only[go_sem];rfl) (B+65) a6 (fun i hi=>nt (hfr i a6)) ((E.mono hB fr).mono hB fun i hi=>⟨nu,nu⟩) ?_
 cases hye2:cl fs 2 es
 ·rw[hye2] at hza
  simp only[y9,B3] at hza
  subst hza
  exact Vt
 rw[hye2] at hza
 simp only[s7] at hza
 simp only[go_sem,q0,q4,o4]
 refine bQ aa rfl hth (by simp only[go_sem];rfl) (B+65) a6 (fun i hi=>nt (hfr i a6)) ((E.mono hB fr).mono hB fun i hi=>⟨nu,nu⟩) ?_
 exact Vu):P:=h
theorem V1 {P:Prop}(h:P:=by
 obtain rfl:z=false:=by rw[←hz];simp[br,hop]
 simp only[go_sem,hlv,hop]):P:=h
theorem V2 {P:Prop}(h:P:=by
 obtain⟨fn,h1,h2,h3⟩:=hp.1
 have h2:¬fn.body=none:=by intro h;rw[h] at h2;simp at h2
 have h3:¬fn.name = "runtime.NumGoroutine":=by simpa using h3
 simp[execOp,ho,resolve,Act.eval,hv1,Deferred.ofValue,invoke,callFunc,h1,h2,h3]):P:=h
theorem V3 {P:Prop}(h:P:=by
 obtain⟨fn,h1,h2,h3⟩:=hp.1
 have h2:¬fn.body=none:=by intro h;rw[h] at h2;simp at h2
 have h3:¬fn.name = "runtime.NumGoroutine":=by simpa using h3
 simp[execOp,ho,resolve,Act.eval,hv,Deferred.ofValue,invoke,callFunc,h1,h2,h3]):P:=h
theorem V4 {P:Prop}(h:P:=by
 simp only[go_sem,hlv,hop,hnu,hnm]
 by_cases hkn:(kids.length:Int)=2
 case neg=>
  obtain rfl:z=false:=by
   have:¬kids.length=2:=a6
   rw[←hz];simp[br,this]
  simp only[go_sem,j4,hkn]
 simp only[go_sem,j4,hkn,hwl]
 refine bG rfl (by simp only[go_sem,hwl];exact hK) ?_
 rintro _ rfl
 obtain rfl:z=bb (lv+1) kids:=by
  have:kids.length=2:=a6
  rw[←hz];simp[br,ai,hle,this,hnm,hnu,hop]
 exact VE):P:=h
theorem V5 {P:Prop}(h:P:=by
 obtain rfl:z=false:=by rw[←hz];simp[br,hnu]
 simp only[go_sem,hlv,hop,hnu]):P:=h
theorem V6 {P:Prop}(h:P:=by
 have hw:=ab (k:=k) a6
 by_cases hlt:k<kids.length
 case neg=>
  have hki:¬(k:Int)<(kids.length:Int):=a6
  obtain rfl:k=kids.length:=a6
  rw[E4,bS] at hza
  exact VJ
 have hki:(k:Int)<(kids.length:Int):=a6
 have hk0:(0:Int)≤(k:Int):=a6
 obtain⟨e,he⟩:=getq hlt
 have hsz1:=Src.Kv (l0 he)
 have hdr:kids.drop k=e::kids.drop (k+1):=by rw[A5 hlt,(l4.1 he).2]
 exact VF):P:=h
theorem V7 {P:Prop}(h:P:=by
 have g3_1:g1 (B+3)=gI:=(K1.gen (B+3) a6 a6 a6).trans (by simp only[upd];rw[if_pos trivial])
 simp only[go_sem,p3_1,g3_1]
 refine aQ aa rfl (lG hP 1 0 a8) (B+10) G D H gG _ _ (by first|rfl|simp only[go_sem,p3_1,g3_1,bq]) hg1 S1 (by first|exact hl|((try simp only[am,aj,al,Emit.jL,Emit.ks,j5,j6,j7]);omega)) (by first|exact hh|((try simp only[am,aj,al,Emit.jL,Emit.ks,j5,j6,j7,l8]);omega)) ?_
 exact Vz):P:=h
theorem V8 {P:Prop}(h:P:=by
 simp only[x8,w8,s6,s9] at hop;subst hop
 simp only[go_sem,k3,k8,k9,hc]
 exact r9):P:=h
theorem V9 {P:Prop}(h:P:=by
 refine bQ aa rfl h (by simp only[go_sem];rfl) (B+20) a6 (fun i hi=>nt (hf i a6)) (E.mono hB fun i hi=>⟨nu,nu⟩) ?_
 simp only[go_sem]
 cases cl fs 1 kids
 ·simp only[go_sem]
  exact VA
 ·simp only[go_sem]
  refine⟨_,ag.refl _,?_⟩
  simp only[go_sem]
  exact aZ.nil (fun i hi=>⟨nu,nu⟩) (rs':=[iv .i64 1]) ⟨_,_,rfl,.one (.d _),rfl⟩ ⟨rfl,rfl,rfl⟩):P:=h
theorem Wa {P:Prop}(h:P:=by
 have hji:(j:Int)<(out.length:Int):=a6
 have hj0:(0:Int)≤(j:Int):=a6
 obtain⟨v,hv⟩:=getq hlj
 have hvb:=hov v (l0 hv)
 simp only[go_sem,f57,f58,f59,f8,hji,hj0,hv,hwj,j4]
 rw[A5 hlj,Emit.pw,show out[j]=v from(l4.1 hv).2] at hdp
 refine de (m-1) a6 ⟨j+1,max dp v,a6,hdp,a6,a6,?_⟩
 simp only[go_sem,f1,f2,f3,f20,f21,f4,f57,f58,o1,o2,o3,o34,o41,o55]):P:=h
theorem Wb {P:Prop}(h:P:=by
 simp only[x8,w8,s6,s9] at hop;subst hop
 simp only[go_sem,k3,k9,hc]
 exact r9):P:=h
theorem Wc {P:Prop}(h:P:=by
 obtain⟨v,h1,h2⟩:=hget _ _ hv i x hx
 have hlt:i<vs.length:=(l4.1 h1).1
 have:(vs.toArray++Array.replicate (fn.ntmps-vs.toArray.size) undef).getD i undef=v:=by
  rw[v7,D9 (by simpa using hlt)]
  simp[h1]
 rw[this]
 simp only[z7]
 exact RV.rep x (RV.mono (fun b hb=>⟨⟨hJ b hb,fun _=>hb,fun id a ho=>by cases ho⟩,rfl⟩) x h2)):P:=h
theorem Wd {P:Prop}(h:P:=by
 refine bG rfl (by simp only[go_sem];exact hD) ?_
 rintro _ rfl
 simp only[go_sem,q1,q4,q4o,q5,q5o,q6,hk0,hlti]
 refine⟨by simp only[j5,j6,hpl];omega,by simp only[j5,j6,hol];omega,?_⟩
 simp only[go_sem,q6,hw]
 refine eU m a6 ⟨k+1,a6,?_⟩
 simp only[go_sem,q1,q1g,q1o,q4,q5]
 exact⟨by rw[hs4,hi1],by rw[hs1,ho1]⟩):P:=h
theorem We {P:Prop}(h:P:=by
 refine⟨_,ag.refl _,?_⟩
 simp only[go_sem]
 exact aZ.nil (fun i hi=>⟨nt ((fr i hi).1),nt ((fr i hi).2)⟩) (rs':=[bv false]) ⟨_,_,rfl,.one (.d _),rfl⟩ ⟨rfl,rfl,rfl⟩):P:=h
theorem Wf {P:Prop}(h:P:=by
 obtain⟨h1,h2,h3⟩:=h
 refine⟨h1,B5 h2 (hk.gen id),fun hg ho=>?_⟩
 have e:g' id=g id:=Q1 a6 (hk.gen id)
 obtain⟨l1,l2,_⟩:=hk.live id e ho
 rw[l2];exact h3 a6 l1):P:=h
theorem Wg {P:Prop}(h:P:=by exact⟨z,cv,h1,fun w' hw'=>by simp[execOp,h2 w' hw'],h3⟩):P:=h
theorem Wh {P:Prop}(h:P:=by
 rw[if_pos k4] at h1 h2
 simp only[go_sem,q1,q2,o2,q5,hg,hki,k4]
 refine ba rfl (lC p hf name) (by simp only[go_sem];exact ww) rfl ?_
 by_cases hn:pF p.funcs name<0
 ·obtain rfl:=h2 (by rw[Src.Ph hn];rfl)
  simp only[go_sem,hn]
 obtain⟨_,_,_,_,hs⟩:=Src.Pi hn
 rw[hs,B1,s7] at h1 h2
 simp only[go_sem,q1,q2,o2,q5,hg,hki,hn]):P:=h
theorem Wi {P:Prop}(h:P:=by
 by_cases h2:x.op=3∨x.op=9∨x.op=13
 ·omega
 by_cases h3:x.op=4∨x.op=7
 ·omega
 by_cases h4:x.op=5
 ·omega
 by_cases h5:x.op=6
 ·omega
 by_cases h6:x.op=8
 ·omega
 by_cases h7:x.op=10
 ·omega
 by_cases h8:x.op=11
 ·omega
 rw[if_neg h1,if_neg h2,if_neg h3,if_neg h4,if_neg h5,if_neg h6,if_neg h7,if_neg h8] at h
 cases h):P:=h
theorem Wj {P:Prop}(h:P:=by
 refine⟨_,ag.refl _,?_⟩
 simp only[go_sem,n1,n2]
 exact aZ.nil (fun i hi=>⟨by (try simp only[upd]);(repeat rw[if_neg (by omega)]);first|done|rfl|exact(hlw i hi).1,by (try simp only[upd]);(repeat rw[if_neg (by omega)]);first|done|rfl|exact(hlw i hi).2⟩) (rs':=[qJ (some t)]) ⟨_,_,rfl,Di (thD t),rfl⟩ ⟨rfl,rfl,rfl⟩):P:=h
theorem Wk {P:Prop}(h:P:=by
 rw[hsome i] at hi'
 refine⟨hi',rfl,fun a' ha' arr1 el1 fr1 h1=>?_⟩
 by_cases hb:a'.block=ad.block
 ·rw[hb] at h1 ⊢
  rw[f1] at h1
  cases h1
  exact⟨arr,el,(lo,hi),hblk,a6⟩
 ·rw[heap_setCells_other _ _ _ _ _ hb] at h1
  exact⟨arr1,el1,fr1,h1,j8 _⟩):P:=h
theorem Wl {P:Prop}(h:P:=by
 obtain rfl:z=false:=by
  have:¬e.length=1:=a6
  rw[←hz];simp[bX,this]
 simp only[go_sem,j4,hn]):P:=h
theorem Wm {P:Prop}(h:P:=by
 refine⟨by simp only[go_sem,q4],by simp only[go_sem,q5],by simp only[go_sem],by simp only[go_sem],by simp only[go_sem,e4,e5,e6],by simp only[go_sem,e4,e5,e6],by simp only[go_sem,hc4,hc5,hc6],fun i hi hic=>?_⟩
 simp only[upd]
 (repeat rw[if_neg (by omega)])
 exact⟨rfl,rfl⟩):P:=h
theorem Wo {P:Prop}(h:P:=by
 refine⟨_,ag.refl _,?_⟩
 simp only[go_sem]
 exact aZ.nil (fun i hi=>⟨nu,nu⟩) (rs':=[iv .i64 2]) ⟨_,_,rfl,.one (.d _),rfl⟩ ⟨rfl,rfl,rfl⟩):P:=h
theorem Wp {P:Prop}(h:P:=by
 intro r g1 ob1 S1 K1
 simp only[go_sem]
 refine⟨_,ag.refl _,?_⟩
 simp only[go_sem]
 exact S.pack S1 (K0.trans (ce.down K1 a6)) rfl rfl (rs':=[]) rfl):P:=h
theorem Wq {P:Prop}(h:P:=by
 rintro _ rfl
 simp only[go_sem]
 exact hK):P:=h
theorem Ws {P:Prop}(h:P:=by
 refine⟨y,cv,q1,fun w' hw'=>?_,q3⟩
 have q2:=q2 w' hw'
 simp only[Sem.run_pure,Result.ok.injEq,L1] at q2
 subst q2
 have hf:(Instr.findKey kt (dV k0) []).run P w'=.ok none w':=MapKept.run_findKey hk rfl
 simp[Instr.lookup,run_underlying hu,hck,hf,hzr]):P:=h
theorem Wt {P:Prop}(h:P:=by
 refine⟨y,cv,q1,fun w' hw'=>?_,q3⟩
 have q2:=q2 w' hw'
 rw[g2] at q2
 simp only[Sem.run_pure,Result.ok.injEq,L1] at q2
 subst q2
 simp[Instr.lookup,run_underlying hu,MapKept.run_getObj_map (hw'.cells hblk),hck,MapKept.run_findKey hk g1,hzr]):P:=h
theorem Wu {P:Prop}(h:P:=by
 refine⟨0,rfl,⟨?_,?_,?_,?_,?_,?_,?_⟩,?_⟩ <;> (simp only[go_sem,q1,q4,q5,q6,o1,o4,o5,hT0])
 ·rfl
 ·exact fr
 ·exact⟨M,oM,mM,dM⟩):P:=h
theorem Wv {P:Prop}(h:P:=by exact wpIn_mono (hR N β a ds w hc hr hφ) (fun e a' w' ⟨s',β',a0,ds',h0,h1,h2,h3⟩=>⟨s',β',a0,ds',h0,h1.imp (hK _ _) (fun h=>h),h2,h3⟩)):P:=h
theorem Ww {P:Prop}(h:P:=by
 refine dE w7 ?_
 intro K' hK'
 simp only[go_sem]
 refine hK' _ ?_
 clear hK' K'
 simp only[go_sem,q11,hw]
 refine ah (m-1) a6 ⟨k+1,a6,?_⟩
 simp only[go_sem,q2,q9,q10,o2]
 refine⟨by rw[vx he],fun j hj=>⟨nt ((fr j hj).1),nt ((fr j hj).2)⟩,fun j hj=>nt (hfr j hj)⟩):P:=h
theorem Wx {P:Prop}(h:P:=by
 have:(fun i=>(Array.replicate ops.size false).getD i false)=fun _=>false:=by
  funext i
  rw[v7,C7]
  split <;> rfl
 rw[this];exact h0):P:=h
theorem Wy {P:Prop}(h:P:=by
 exfalso
 obtain⟨e,he,ho,htb⟩:=hent i hi
 obtain⟨e',he',ho',htb'⟩:=hent j hj
 simp only[dst,ho,ho',J1] at h1 h2
 rcases(hchk i e hi ho htb).2.1 j e'.o hj a6 ho' with h|h
 ·rw[h] at h2;cases h2
 ·exact h (by rw[h1,h2])):P:=h
theorem Wz {P:Prop}(h:P:=by
 refine qa (fun i=>p i=true) rfl (fun i=>.inl rfl) (fun i cells' hc=>?_)
 simp only at hc
 by_cases h:p i=true
 ·rw[if_pos h] at hc;cases hc
 ·rw[if_neg h] at hc
  exact⟨h,cells',hc,rfl,fun j c c' e1 e2=>.inl (by rw[e1] at e2;exact(E7 e2).symm)⟩):P:=h
theorem WA {P:Prop}(h:P:=by
 simp only[upd,v7,M5]
 by_cases hj:i=j
 ·subst hj;simp[hsz,hi1]
 ·have:¬j=i:=fun e=>hj e.symm
  simp[hj,this]):P:=h
theorem WB {P:Prop}(h:P:=by
 simp only[go_sem,j7,v8]
 refine ak (fun m st=>m=0∧st.f 14=.one (.d (.sl []))∧st.f 15=iv .i64 0∧st.f 16=iv .i64 0) 0 ?_ ?_
 ·exact VE
 rintro m f g1 ob1 ⟨rfl,q14,q15,q16⟩
 simp only at q14 q15 q16
 simp only[go_sem,q14,q15,q16]):P:=h
theorem WD {P:Prop}(h:P:=by exact .sl (sz:=sz) (fun _ _=>undef) a7 (fun h=>absurd rfl h) (fun _ h=>by cases h) (fun _ _ h=>by cases h) (fun _ _ h=>by cases h)):P:=h
theorem WE {P:Prop}(h:P:=by
 have hty:=(hT t (by rw[hd];rfl)).desc
 rw[hd] at hty
 refine fd h fun w=>?_
 rw[Sem.run_bind,ge _ _ _ _ _ _ a7 a7]
 simp only[binOp,Sem.run_bind,Result.andThen_ok,run_equal_bool hty,Sem.run_pure]
 cases a <;> cases b <;> rfl):P:=h
theorem WG {P:Prop}(h:P:=by
 obtain rfl:z=false:=by
  have:¬kids=[]:=fun e=>hkn (by rw[e];rfl)
  rw[←hz];simp[br,this]
 simp only[go_sem,j4,hkn]):P:=h
theorem WH {P:Prop}(h:P:=by
 by_cases hop:op=0
 case neg=>
  exact V1
 by_cases hnu:num=0
 case neg=>
  exact V5
 by_cases hnm:name=[]
 case neg=>
  obtain rfl:z=false:=by rw[←hz];simp[br,ai,hnm]
  simp only[go_sem,hlv,hop,hnu,hnm]
 exact V4):P:=h
theorem WI {P:Prop}(h:P:=by
 rintro r g' ob' ⟨f1,f2⟩
 simp only[go_sem]
 exact fT (.inr rfl) (fin (fun i hi=>by (try simp only[upd]);repeat (rw[if_neg (by omega)]);try rfl) (fun i hi=>by (try simp only[upd]);repeat (rw[if_neg (by omega)]);try rfl) f1 f2)):P:=h
theorem WJ {P:Prop}(h:P:=by exact eP hex ⟨hr'.defers,hn _ β _ w rfl hr' (hΦ _ _ _ _ _ _ _ hφ (Tr.same (St.put_gen _ _ _) (St.put_obj _ _ _) rfl))⟩):P:=h
theorem WK {P:Prop}(h:P:=by
 refine ah (m-1) a6 ⟨k+1,a6,⟨?_,?_,?_,?_,?_,?_,?_⟩,?_⟩ <;> (simp only[go_sem,q1,q4,q5,q6,o1,o4,q16,q17])
 ·rw[hT,jd]
 ·exact fun i hi=>⟨nt ((fr i hi).1),nt ((fr i hi).2)⟩
 ·exact⟨M',rfl,by rw[hT];exact mM',dM'⟩):P:=h
theorem WL {P:Prop}(h:P:=by
 refine⟨h.1,h0.2.1,fun hg ho=>?_⟩
 obtain⟨l1,l2,l3⟩:=hl id ho
 rw[←l2];exact h.2.2 (by rw[l1];exact hg) l3):P:=h
theorem WM {P:Prop}(h:P:=by
 have hki:¬(k:Int)<(l.length:Int):=a6
 rw[x6 a6] at hc
 obtain rfl:z=true:=hc.symm
 simp only[go_sem,q1,q5,hki,j4]):P:=h
theorem WN {P:Prop}(h:P:=by
 refine ah (m-1) a6 ⟨k+1,a6,⟨?_,?_,?_,?_,?_,?_,?_⟩,?_⟩ <;> (simp only[go_sem,q1,q4,q5,q6,o1,o4,q16,q17])
 ·rw[hT,jd]
 ·exact fun i hi=>⟨(fr i hi).1,nt ((fr i hi).2)⟩
 ·exact⟨M',rfl,by rw[hT];exact mM',dM'⟩):P:=h
theorem WO {P:Prop}(h:P:=by
 rw[hq] at hc
 simp only[y8,s9] at hc
 subst hc
 refine⟨_,rfl,?_⟩
 simp only[ap]
 exact bN.of_plain (by have:=hty.plain;rw[x7] at this;exact this x (l0 hq))):P:=h
theorem WQ {P:Prop}(h:P:=by
 have h1:=Src.Pj x.word x.body
 have h2:=Src.Ku (fun x:Src.CFn=>Src.mg x.body) hx
 have h3:((ac p).funcs.map fun x=>Src.mg x.body).sum=(p.funcs.map fun f=>Src.au f.body).sum:=Src.yV _ _ _
 unfold Emit.eZ
 omega):P:=h
theorem WR {P:Prop}(h:P:=by
 intro g1 ob1 p1 q1 r1
 simp only[go_sem]
 refine gL (fun i=>decide (K≤i)) ?_
 exact⟨rfl,p1.fin hK⟩):P:=h
theorem WS {P:Prop}(h:P:=by exact⟨hr'.defers,v,h1,v,r,rfl,h2,ht.size,fun b hb=>ht.old b hb,ht.os,h3⟩):P:=h
theorem WT {P:Prop}(h:P:=by
 simp only[s5,A2,z8] at this ⊢
 exact this):P:=h
theorem WU {P:Prop}(h:P:=by exact wp_mono (hR b₀ N β a w hc hr) (fun e a' w' ⟨s',β',h1,h2,h3⟩=>⟨s',β',hK _ _ h1,h2,h3⟩)):P:=h
theorem WV {P:Prop}(h:P:=by
 refine⟨_,ag.refl _,?_⟩
 simp only[go_sem]
 exact S.pack S1 (K1.down a6) rfl rfl (rs':=[]) rfl):P:=h
theorem WW {P:Prop}(h:P:=by exact⟨_,db (k:=0) (v:=0) (e:=3),rfl⟩):P:=h
theorem WX {P:Prop}(h:P:=by
 rw[l7 (j8 _),hL] at o5 mM
 simp only[go_sem,q17,q18,hki]
 refine aL b9 ?_
 simp only[go_sem,q4,q5,o4,o5]
 refine⟨_,ag.refl _,?_⟩
 simp only[go_sem]
 exact⟨rfl,⟨M,oM,mM,dM⟩,fr⟩):P:=h
theorem WY {P:Prop}(h:P:=by
 rintro _ rfl
 unfold pQ eQ
 simp only[go_sem]
 exact⟨_,sw,rfl⟩):P:=h
theorem WZ {P:Prop}(h:P:=by
 subst h hn
 exact⟨rfl,⟨fL 0 1 rfl a8 a6 a7 (by rw[hT];congr 1;omega),trivial⟩,fun h=>h.1⟩):P:=h
theorem W0 {P:Prop}(h:P:=by
 refine⟨0,0,rfl,rfl,E6 _,a8,?_⟩
 simp only[go_sem,f1,f2,f3,f20,f21,f4,o1,o2]
 refine⟨?_,?_,?_⟩
 ·rw[l7 a6,tT];rfl
 ·rw[l7 a6,jQ];rfl
 ·rw[l7 a6,jQ];rfl):P:=h
theorem W1 {P:Prop}(h:P:=by
 refine⟨0,rfl,⟨?_,?_,?_,?_,?_,?_,?_⟩,?_⟩ <;> (simp only[go_sem])
 ·rfl
 ·rfl
 ·exact fun i hi=>⟨nu,nu⟩
 ·exact⟨[],rfl,fun s=>rfl,fun c hc=>by cases hc⟩):P:=h
theorem W2 {P:Prop}(h:P:=by
 refine⟨_,ag.refl _,?_⟩
 simp only[go_sem,n1,n2]
 exact aZ.nil (fun i hi=>⟨nu,nu⟩) (rs':=[.agg ((plD t).map .d)]) ⟨_,_,rfl,Di (plD t),rfl⟩ ⟨rfl,rfl,rfl⟩):P:=h
theorem W3 {P:Prop}(h:P:=by
 simp only[Oper.upon]
 have:=hp.2 b₀ N β a s.f w (args.toList.map a.eval) hr (ij hr _)
 rw[show (args.toList.map a.eval).toArray=args.map a.eval from I2 a7] at this
 exact Vx):P:=h
theorem W4 {P:Prop}(h:P:=by
 obtain rfl:z=false:=by rw[←hz];simp[bX,ai,hnm,dg]
 simp only[go_sem,j4,hlv,hel,hth,hnm]):P:=h
theorem W5 {P:Prop}(h:P:=by
 refine this.mono fun e w' ⟨v,r,g',ob',β',he,hR,hv,h1,h2,h3⟩=>?_
 subst he
 obtain⟨k1,k2⟩:=gK hr hdst hv h1 h2 h3
 exact hn _ β' _ w' ⟨r,g',ob',hR,rfl⟩ k1 k2):P:=h
theorem W6 {P:Prop}(h:P:=by
 simp only[St.newC,upd];split
 ·rename_i he;subst he;exact R1 (vT _ _)
 ·exact j8 _):P:=h
theorem W7 {P:Prop}(h:P:=by
 obtain rfl:z=false:=by rw[←hz];simp[br,ai,hnm,dg]
 simp only[go_sem,hlv,hop,hnu,hnm]):P:=h
theorem W8 {P:Prop}(h:P:=by
 refine⟨_,ag.refl _,?_⟩
 simp only[go_sem]
 exact aZ.use (fun i hi h5 h6=>⟨(fr i hi).1,(fr i hi).2 h5 h6⟩) (fr 5 a6).1 (fr 6 a6).1 o5 o6 (rs':=[]) rfl):P:=h
theorem W9 {P:Prop}(h:P:=by
 obtain⟨k,t,v⟩:=y
 rw[tW]
 simp only[go_sem]
 exact⟨_,db (e:=0),rfl⟩):P:=h
theorem Xa {P:Prop}(h:P:=by
 rcases hi3 e (by simpa using he) with h|h
 ·rw[hb] at h;cases h
 ·exact h):P:=h
theorem Xb {P:Prop}(h:P:=by exact⟨y,cv,h1,fun w' hw'=>by simp[execOp,h2 w' hw'],h3⟩):P:=h
theorem Xc {P:Prop}(h:P:=by
 simp only[ae,ap]
 exact⟨rfl,hv.2.1,fun _ _=>⟨ad,hβ,hsp,by simp[C1]⟩⟩):P:=h
theorem Xd {P:Prop}(h:P:=by exact⟨_,⟨_,⟨_,_,rfl,jb .nsl,_,_,rfl,jb _,_,_,rfl,jb _,rfl⟩,rfl⟩,rfl⟩):P:=h
theorem Xe {P:Prop}(h:P:=by exact h.elim):P:=h
theorem Xf {P:Prop}(h:P:=by
 unfold jh
 split
 ·rename_i hm
  simp only[z6,A4,E3] at hm
  rcases hm with rfl|rfl
  ·exact Vy
  ·exact absurd rfl hi
 ·rfl):P:=h
theorem Xg {P:Prop}(h:P:=by refine⟨⟨by rw[setCells_size];exact hb.1,hb.2.1,fun i a' hi'=>hb.2.2 i a' (by rw[←hsome i];exact hi')⟩,heap_setCells_other _ _ _ _ _ hne⟩):P:=h
theorem Xh {P:Prop}(h:P:=by
 subst he
 obtain⟨k1,k2⟩:=gK hr hdst hv h1 h2 h3
 exact⟨k1.defers,hn _ β' _ w' ⟨r,g',ob',hR,rfl⟩ k1 (hΦ _ _ _ _ _ _ _ hφ k2)⟩):P:=h
theorem Xi {P:Prop}(h:P:=by
 rcases this with((h|h)|h)|h
 ·exact .inl h
 ·exact .inr (.inl h)
 ·exact .inr (.inr h)
 ·rw[I3.2 hat] at h;cases h):P:=h
theorem Xj {P:Prop}(h:P:=by
 refine dE w7 ?_
 intro K' hK'
 simp only[go_sem]
 refine hK' _ ?_
 clear hK' K'
 simp only[go_sem,q0,q4,hg]):P:=h
theorem Xk {P:Prop}(h:P:=by
 have:=nj hcl hid j e2.o ho2 (fun e' he' hb'=>hid j _ hLj ho2 e' he' hb') i h
 rw[hL] at this
 exact absurd this.1 a7):P:=h
theorem Xl {P:Prop}(h:P:=by exact fh hT more rest hp' hds' hp.2 h (fun s2 a2 k1 k2 k3=>hQ _ _ k1 k2 (Tr.trans (Tr.same (by rw[St.put_gen]) (by rw[St.put_obj]) rfl) k3))):P:=h
theorem Xm {P:Prop}(h:P:=by exact jA hT rest hp hds' h (fun s2 β2 a2 w2 k1 k2 k3=>hQ _ _ _ _ k1 k2 (Tr.trans (Tr.same (by rw[St.put_gen]) (by rw[St.put_obj]) rfl) k3))):P:=h
theorem Xn {P:Prop}(h:P:=by exact fQ hT more rest hp' hds' hp.2 h (fun s2 a2 k1 k2 k3=>hQ _ _ k1 k2 (Tr.trans (Tr.same (by rw[St.put_gen]) (by rw[St.put_obj]) rfl) k3))):P:=h
theorem Xo {P:Prop}(h:P:=by
 have:=x7.1 hds ops[i] (F0 hi1)
 rw[hd] at this
 simpa using this):P:=h
theorem Xp {P:Prop}(h:P:=by simp only[go_sem,q1,o1]):P:=h
theorem Xq {P:Prop}(h:P:=by
 simp only[go_sem,n8,n9,q1,q2,q3,q7,q8]
 exact VK):P:=h
theorem Xr {P:Prop}(h:P:=by
 obtain rfl:z=0:=by rw[←hz,hw];simp
 exact VE):P:=h
theorem Xs {P:Prop}(h:P:=by
 rw[if_pos hw] at h
 rw[if_pos (by simp[Region.wanted,hg,hy,hw])]
 exact hop hr' (Tr.same rfl rfl rfl) h):P:=h
theorem Xt {P:Prop}(h:P:=by
 refine⟨0,rfl,?_⟩
 simp only[St.grab]
 simp only[go_sem]
 exact⟨rfl,fun j hj=>⟨nu,nu⟩,fun j hj=>nt (hB j a6)⟩):P:=h
theorem Xu {P:Prop}(h:P:=by
 simp only[l6] at this
 have h2:=this.1.1
 simp only at ha2
 rw[←ha2,dg] at h2
 cases h2):P:=h
theorem Xv {P:Prop}(h:P:=by
 refine⟨0,rfl,by rw[C5];exact hz,?_⟩
 simp only[go_sem]
 exact⟨fun j hj=>⟨nu,nu⟩,fun j hj=>nt (hf j a6)⟩):P:=h
theorem Xw {P:Prop}(h:P:=by
 rw[tX]
 simp only[go_sem]
 exact⟨_,db (k:=0) (v:=0),rfl⟩):P:=h
theorem Xx {P:Prop}(h:P:=by
 rw[e1]
 exact⟨a6,⟨a8,a6⟩,hK⟩):P:=h
theorem Xy {P:Prop}(h:P:=by
 have hki:¬(k:Int)<(l.length:Int):=a6
 rw[x6 a6] at hc
 obtain rfl:z=true:=hc.symm
 simp only[go_sem,q0,q5,hki,j4]):P:=h
theorem Xz {P:Prop}(h:P:=by
 simp only[go_sem,n8,n9,q1,q2,q6,q7]
 exact VK):P:=h
theorem XA {P:Prop}(h:P:=by
 rw[hβ] at hat
 obtain⟨rfl,rfl⟩:=hat
 have:es=[]:=u7 hlen
 subst this
 exact .sl0):P:=h
theorem XB {P:Prop}(h:P:=by exact eX h (fun w=>by simp[Builtin.len_,run_underlying hu,goInt])):P:=h
theorem XC {P:Prop}(h:P:=by obtain⟨_,_,_,_,_,h⟩:=hok;rcases h with⟨h,_⟩|⟨h,_⟩|⟨h,_⟩|⟨h,_⟩|⟨h,_⟩|⟨h,_⟩|⟨_,h⟩ <;> omega):P:=h
theorem XD {P:Prop}(h:P:=by
 refine⟨0,a,b,rfl,by rw[C5];exact hx0,by rw[C5];exact hy0,?_⟩
 simp only[go_sem,hn,hu]
 exact fun j hj=>hB j a6):P:=h
theorem XE {P:Prop}(h:P:=by
 rw[hg] at h
 simp only at h
 rw[if_pos (by simp[Region.wanted,hg])]
 exact hop hr Tr.refl h):P:=h
theorem XF {P:Prop}(h:P:=by
 obtain⟨k,rfl⟩:∃k,op=k+1:=⟨op-1,a6⟩
 have:names.length≤k:=by show 27≤k;omega
 simp[nameOf,this]):P:=h
theorem XG {P:Prop}(h:P:=by simp only[go_sem,j4,hn,hwl]):P:=h
theorem XH {P:Prop}(h:P:=by exact fN hT rest hp' hds' hp.2 h (fun s2 a2 k1 k2 k3 k4=>hQ _ _ k1 k2 (by rw[k3,St.put_gen]) (by rw[k4,St.put_obj]))):P:=h
theorem XI {P:Prop}(h:P:=by
 obtain rfl:z=false:=by
  have:¬kids.length=1:=a6
  rw[←hz];simp[br,this]
 simp only[go_sem,j4,hkn]):P:=h
theorem XJ {P:Prop}(h:P:=by simpa using this):P:=h
theorem XK {P:Prop}(h:P:=by
 obtain⟨n,hn⟩:∃n,Op.maxDepth=n+1:=⟨_,rfl⟩
 unfold Op.equal
 rw[hn,Op.equalIn]
 simp[run_underlying hu]):P:=h
theorem XL {P:Prop}(h:P:=by
 obtain rfl:z=false:=by rw[←hz];simp[br,ai,hok]
 exact VE):P:=h
theorem XM {P:Prop}(h:P:=by
 obtain rfl:z=false:=by rw[←hz];simp[bX,ai,hok]
 exact VE):P:=h
theorem XN {P:Prop}(h:P:=by
 obtain⟨u,hu,hru⟩:=hcells _ _ (hc m x hx)
 exact⟨u,by rw[eF hblk,C1];exact hu,ih m x hx hru⟩):P:=h
theorem XO {P:Prop}(h:P:=by
 obtain⟨cells,hc⟩:=L4.1 hi
 have:=hr.obj i cells hc
 rw[ha'] at this
 exact this.block.2):P:=h
theorem XP {P:Prop}(h:P:=by
 refine⟨0,rfl,a7,?_⟩
 exact VE):P:=h
theorem XQ {P:Prop}(h:P:=by
 have hge:args.length≤i:=by simpa using hx
 exact VD):P:=h
theorem XR {P:Prop}(h:P:=by
 simp only[go_sem]
 exact hK):P:=h
theorem XS {P:Prop}(h:P:=by
 rintro m f g1 ob1 ⟨k,hk,hza,q0,q9,q10,q11,fr,hfr⟩
 simp only at q0 q9 q10 q11 fr hfr
 exact V6):P:=h
theorem XT {P:Prop}(h:P:=by
 rw[v7,A0 a6] at hi2
 rw[A0 a6]
 simpa using hi2):P:=h
theorem XU {P:Prop}(h:P:=by
 unfold inW
 cases b
 ·exact VE
 ·simp only[go_sem]
  exact⟨fun h=>by simp[h],fun h=>by simp[h]⟩):P:=h
theorem XV {P:Prop}(h:P:=by
 simp only[l5,z6,not_or] at hv
 simp only[maskm,upd]
 rw[if_neg hv.1]
 exact ih hv.2):P:=h
theorem XW {P:Prop}(h:P:=by
 refine bG rfl (by simp only[go_sem];exact hB) ?_
 rintro _ rfl
 rw[hy]
 have k6:¬kind=6:=a6):P:=h
theorem XX {P:Prop}(h:P:=by
 have hge:xs.length≤i:=by simpa using hx
 exact VD):P:=h
theorem XY {P:Prop}(h:P:=by
 rw[hq] at hc
 simp only[y8,s9] at hc
 subst hc
 exact e3 j x hq):P:=h
theorem XZ {P:Prop}(h:P:=by exact⟨s',β',a0,ds',rfl,.inr ⟨ch,rfl,h1⟩,h2,h3⟩):P:=h
theorem X1 {P:Prop}(h:P:=by
 subst h hn
 exact⟨rfl,⟨fL 1 1 rfl a8 a6 a7 (by rw[hT];congr 1;omega),trivial⟩,fun h=>h.1⟩):P:=h
theorem X2 {P:Prop}(h:P:=by
 have h3:¬fnD.name = "runtime.NumGoroutine":=by simpa using hnn
 simp[invoke,callFunc,hf,hb,h3]):P:=h
theorem X6 {P:Prop}(h:P:=by
 rintro _ rfl
 simp only[go_sem,q7,hw]
 refine bD hlt ⟨_,hc,a6,?_⟩
 simp only[go_sem,q0,q2]):P:=h
theorem X7 {P:Prop}(h:P:=by simp only[go_sem,q0]):P:=h
theorem X8 {P:Prop}(h:P:=by exact⟨z,cv,h1,fun w' hw'=>by rw[Sem.run_bind,ge _ _ _ _ _ _ a7 a7];simpa using h2 w' hw',h3⟩):P:=h
theorem X9 {P:Prop}(h:P:=by simp only[upd];rw[if_pos trivial];simp only[bh.cells,bh.at,hQ.s,hQ.ds,hQ.bk,hQ.b,hQ.e,hQ.p,ksD]):P:=h
theorem Ya {P:Prop}(h:P:=by exact eP (by simp[execOp,h2]) (hn _ _ _ _ h1 h3 h4)):P:=h
theorem Yb {P:Prop}(h:P:=by
 simp only[go_sem] at hK ⊢
 refine ck rfl (by simp only[go_sem];exact hF) ?_
 exact Wq):P:=h
theorem Yc {P:Prop}(h:P:=by
 obtain rfl:z=false:=by rw[←hz];simp[bX,ai,hnm]
 simp only[go_sem,j4,hlv,hel,hth,hnm]):P:=h
theorem Yd {P:Prop}(h:P:=by
 rw[e1]
 exact⟨j8 _,fun e he=>by obtain⟨x,_,rfl⟩:=F7.1 he;rfl,⟨a8,a6⟩,hK⟩):P:=h
theorem Ye {P:Prop}(h:P:=by
 have hta:=(hφ4.2.2.trans ht5).trans ht6
 exact⟨hta.size,hta.old,hta.keep,hta.os⟩):P:=h
theorem Yf {P:Prop}(h:P:=by
 rw[hq] at hs
 cases hs
 have:=hout hq
 simp only at this
 omega):P:=h
theorem Yg {P:Prop}(h:P:=by
 simp only[go_sem,f1,f2,f3,f20,f4,o1,o2,o34,o41,o55]
 exact⟨_,_,_,_,rfl,rfl,rfl,rfl⟩):P:=h
theorem Yh {P:Prop}(h:P:=by
 rintro ch g' ob' ⟨rfl,m,hp,hc,rfl⟩
 exact hin.rdr.pan (by simp[upd]) (hno m hp) hc):P:=h
theorem Yi {P:Prop}(h:P:=by
 refine⟨0,rfl,by rw[C5];exact hz,?_⟩
 simp only[go_sem]
 exact fun j hj=>hf j a6):P:=h
theorem Yj {P:Prop}(h:P:=by
 rw[if_pos h]
 have hi:¬(e:Int)=0:=a6
 simp only[go_sem,hi]
 exact⟨_,mZ,rfl⟩):P:=h
theorem Yk {P:Prop}(h:P:=by
 simp only[hi1,hi2,A9] at h1 h2 hb1 hb2
 exact hr.inj i1 i2 a1 a2 h1 h2 hb1 hb2 hb):P:=h
theorem Yl {P:Prop}(h:P:=by
 by_cases h:l=[]
 ·exact .inl h
 ·exact .inr ⟨l.dropLast,l.getLast h,(M6 h).symm⟩):P:=h
theorem Ym {P:Prop}(h:P:=by
 obtain rfl:z=false:=by rw[←hz];simp[br,ai,hnm]
 simp only[go_sem,hlv,hop,hnu,hnm]):P:=h
theorem Yn {P:Prop}(h:P:=by
 simp only[go_sem,q5,hw]
 refine bD hlt ⟨h1 hr,?_⟩
 simp only[go_sem,q0,q1]):P:=h
theorem Yo {P:Prop}(h:P:=by
 obtain⟨u,hu,hru⟩:=hcell _ x (hval i e he j x hx)
 rw[hu];exact hru):P:=h
theorem Yp {P:Prop}(h:P:=by
 unfold Src.gk at this
 simp at this
 omega):P:=h
set_option maxHeartbeats 64000000
set_option maxRecDepth 100000
end
end Go
namespace Go.Am
section
theorem ite_cc {α:Sort _} {b c:Prop} [Decidable b] [Decidable c] {x y:α} (h:b=c):ite b x y=ite c x y:=by subst h;congr
attribute [go_sem] reduceIte
end
section
attribute [local congr] Go.Am.ite_cc
section
inductive D where
 |bool (b:Bool)
 |int (k:IntKind) (n:Int)
 |str (s:List UInt8)
 |sl (es:List (List D))
 |nsl
 |nilp
 |nilf
 |nili
 |nilm
 |fn (f:FuncId)
 |iptr (cs:List D)
 |yld (l:Nat)
 deriving Inhabited
inductive PC where
 |d (x:D)
 |ptr (id g off:Nat)
 deriving Inhabited
inductive C where
 |d (x:D)
 |osl (id g sz off len:Nat)
 |ptr (id g off:Nat)
 |clo (f:FuncId) (caps:List PC)
 |mp (id g kd:Nat)
 |lsl (n:Nat)
 |raw (o:Obj)
 deriving Inhabited
inductive AV where
 |one (c:C)
 |agg (cs:List C)
 |tup (vs:List AV)
 |junk
 |exact(v:Value)
 deriving Inhabited
structure St where
 f:Nat→AV
 gen:Nat→Nat
 obj:Nat→Option (List C)
inductive Box {α:Type} (a:α):Type where
 |mk
@[reducible] def bx {α:Type} (a:α):Box a:=.mk
def upd {α:Type} (f:Nat→α) (i:Nat) (v:α):Nat→α:=fun j=>if j=i then v else f j
structure TI where
 desc:TypeDesc
 size:Nat
 bytes:Nat
 zero:List D
 deriving Inhabited
abbrev iv (k:IntKind) (n:Int):AV:=.one (.d (.int k n))
abbrev bv (b:Bool):AV:=.one (.d (.bool b))
abbrev sv (s:List UInt8):AV:=.one (.d (.str s))
abbrev uv:AV:=.tup []
def Vm:Value→C
 |.bool b=>.d (.bool b)
 |.int k n=>.d (.int k n)
 |.string s=>.d (.str s.data.toList)
 |.slice none 0 0=>.d .nsl
 |.pointer none=>.d .nilp
 |.nilFunc=>.d .nilf
 |.nilIface=>.d .nili
 |.map none=>.d .nilm
 |_=>.osl 0 0 0 0 0
def vS:Value→AV
 |.bool b=>.one (.d (.bool b))
 |.int k n=>.one (.d (.int k n))
 |.string s=>.one (.d (.str s.data.toList))
 |.slice none 0 0=>.one (.d .nsl)
 |.pointer none=>.one (.d .nilp)
 |.nilFunc=>.one (.d .nilf)
 |.nilIface=>.one (.d .nili)
 |.map none=>.one (.d .nilm)
 |_=>.junk
def St.ev (s:St):Operand→AV
 |.tmp t=>s.f t
 |.const v=>vS v
 |.global _=>.junk
 |.func f=>.one (.d (.fn f))
def St.put (s:St) (dst:Option Nat) (v:AV):St:=
 match dst with
 |none=>s
 |some d=>{ s with f:=upd s.f d v }
def nxC (c g:Nat):Nat:=1000000*(g+1)+(if c<1000000 then c else 0)
def code (g:Nat):Nat:=g%1000000
theorem vT (c g:Nat):g<nxC c g:=by unfold nxC;omega
theorem zq (c g:Nat):nxC c g≠g:=Nat.ne_of_gt (vT c g)
theorem mj (c g:Nat):code (nxC c g)=if c<1000000 then c else 0:=by
 unfold code nxC;rw[Nat.mul_add_mod];split
 ·rename_i h;exact P2 h
 ·rfl
def apC (e g off:Nat):Nat:=if code g=e+1∧off=0 then e+1 else 0
def St.newC (c:Nat) (s:St) (d:Nat) (cs:List C):St:={ s with gen:=upd s.gen d (nxC c (s.gen d)),obj:=upd s.obj d (some cs)}
def cU:TypeDesc→Bool
 |.struct _|.array _ _=>true
 |_=>false
def cellsOf:AV→Option (List C)
 |.one c=>some [c]
 |.agg cs=>some cs
 |_=>none
def setAt (cells:List C) (off:Nat):List C→List C
 |[]=>cells
 |c::cs=>setAt (cells.set off c) (off+1) cs
def uP (b:UInt8):D:=.int .u8 b.toNat
def ie (b:Bool) {K:Bool→Prop} (_:Box K):Prop:=(b=true→K true)∧(b=false→K false)
def aM {α:Type} (x:Option α) {K:α→Prop} (_:Box K):Prop:=
 match x with
 |some a=>K a
 |none=>False
def nV (v:AV) {K:Bool→Prop} (k:Box K):Prop:=
 match v with
 |.one (.d (.bool b))=>ie b k
 |_=>False
def kV (v:AV) {K:Bool→Prop} (k:Box K) {U:Prop} (_:Box U):Prop:=
 match v with
 |.one (.d (.bool b))=>ie b k
 |.tup []=>U
 |_=>False
def sy (ti:TI) (cells:List C) (off:Nat) {K:AV→Prop} (_:Box K):Prop:=
 match cU ti.desc with
 |true=>off+ti.size≤cells.length∧K (.agg ((cells.drop off).take ti.size))
 |false=>aM (cells[off]?) (bx fun c=>K (.one c))
def Ba (ti:TI) (cs:List D) {K:AV→Prop} (_:Box K):Prop:=
 match cU ti.desc with
 |true=>ti.size≤cs.length∧K (.agg ((cs.take ti.size).map .d))
 |false=>aM (cs[0]?) (bx fun c=>K (.one (.d c)))
def okD:TypeDesc→Bool
 |.invalid=>false
 |_=>true
def ri (ti:TI) (s:St) (a:AV) {K:AV→Prop} (k:Box K):Prop:=
 match a with
 |.one (.ptr id g off)=>okD ti.desc=true∧s.gen id=g∧aM (s.obj id) (bx fun cells=>sy ti cells off k)
 |.one (.d (.iptr cs))=>okD ti.desc=true∧Ba ti cs k
 |_=>False
def pY (ti:TI) (s:St) (a x:AV) {K:St→Prop} (_:Box K):Prop:=
 match a with
 | .one (.ptr id g off)=>okD ti.desc=true∧s.gen id=g∧aM (cellsOf x) (bx fun cs=>cs.length=ti.size∧aM (s.obj id) (bx fun cells=>off+cs.length≤cells.length∧
     K { s with obj:=upd s.obj id (some (setAt cells off cs))}))
 |_=>False
def gp (s:St) (sz:Nat) (x ix:AV) {K:AV→Prop} (_:Box K):Prop:=
 match ix with
 |.one (.d (.int _ i))=>
   match x with
   |.one (.d (.sl es))=>0≤i∧aM (es[i.toNat]?) (bx fun c=>c.length=sz∧K (.one (.d (.iptr c))))
   |.one (.osl id g sz' off len)=>s.gen id=g∧(s.obj id).isSome=true∧0≤i∧i<len∧sz'=sz∧K (.one (.ptr id g (off+i.toNat*sz)))
   |_=>False
 |_=>False
def kz (T:Nat→TI) (d:TypeDesc) (s:St) (x ix:AV) {K:AV→Prop} (_:Box K):Prop:=
 match d with
 |.array n e=>
   match ix with
   |.one (.d (.int _ i))=>
     match x with
     |.one (.ptr id g off)=>s.gen id=g∧(s.obj id).isSome=true∧okD (T e).desc=true∧0≤i∧i<n∧K (.one (.ptr id g (off+i.toNat*(T e).size)))
     |_=>False
   |_=>False
 |_=>False
def ml (d:TypeDesc):Bool:=match d with|.array _ _=>true|_=>false
def sA (x ix:AV) {K:AV→Prop} (_:Box K):Prop:=
 match ix with
 |.one (.d (.int _ i))=>
   match x with
   |.one (.d (.str s))=>0≤i∧aM (s[i.toNat]?) (bx fun c=>K (iv .u8 c.toNat))
   |_=>False
 |_=>False
def kW (op:BinOp) (k:IntKind) (x y:Int) {K:AV→Prop} (_:Box K):Prop:=
 match op with
 |.add=>K (iv k (k.wrap (x+y)))
 |.sub=>K (iv k (k.wrap (x-y)))
 |.mul=>K (iv k (k.wrap (x*y)))
 |.quo=>y≠0∧K (iv k (k.wrap (x.tdiv y)))
 |.rem=>y≠0∧K (iv k (x.tmod y))
 |.eql=>K (bv (decide (x=y)))
 |.neq=>K (bv (decide (x≠y)))
 |.lss=>K (bv (decide (x<y)))
 |.leq=>K (bv (decide (x≤y)))
 |.gtr=>K (bv (decide (y<x)))
 |.geq=>K (bv (decide (y≤x)))
 |.and=>K (iv k (k.wrap (BitVec.ofInt k.bits x &&&BitVec.ofInt k.bits y).toNat))
 |.or=>K (iv k (k.wrap (BitVec.ofInt k.bits x |||BitVec.ofInt k.bits y).toNat))
 |.xor=>K (iv k (k.wrap (BitVec.ofInt k.bits x ^^^ BitVec.ofInt k.bits y).toNat))
 |.andNot=>K (iv k (k.wrap (BitVec.ofInt k.bits x &&& ~~~ BitVec.ofInt k.bits y).toNat))
 |.shl=>0≤y∧K (iv k (k.wrap (x*2^(min y.toNat k.bits))))
 |.shr=>0≤y∧K (iv k (x.fdiv (2^(min y.toNat k.bits))))
def zr (op:BinOp) (x y:List UInt8) {K:AV→Prop} (_:Box K):Prop:=
 match op with
 |.add=>((x.length+y.length:Nat):Int)≤9223372036854775807∧K (sv (x++y))
 |.eql=>K (bv (decide (x=y)))
 |.neq=>K (bv (decide (x≠y)))
 |.lss=>K (bv (Op.bytesLess x y))
 |.leq=>K (bv (Op.bytesLess x y||decide (x=y)))
 |.gtr=>K (bv (!(Op.bytesLess x y||decide (x=y))))
 |.geq=>K (bv (!Op.bytesLess x y))
 |_=>False
def sameKind (op:BinOp) (k k':IntKind):Prop:=
 match op with
 |.shl|.shr=>True
 |_=>k=k'
def HJ (d:TypeDesc) (op:BinOp) (x y:Bool) {K:AV→Prop} (_:Box K):Prop:=
 match d,op with
 |.bool,.eql=>K (bv (decide (x=y)))
 |.bool,.neq=>K (bv (decide (x≠y)))
 |_,_=>False
def uQ (k:IntKind):List C→Option (List Int)
 |[]=>some []
 |.d (.int k' n)::r=>if k'=k then(uQ k r).map (n :: ·) else none
 |_=>none
def HK (ti:TI) (n:Nat) (xs ys:List C) {K:Bool→Prop} (_:Box K):Prop:=
 match ti.desc with
 |.int k=>ti.size=1∧aM (uQ k xs) (bx fun a=>aM (uQ k ys) (bx fun b=>(a.length=n∧b.length=n)∧K (decide (a=b))))
 |_=>False
def Pm (T:Nat→TI) (d:TypeDesc) (op:BinOp) (xs ys:List C) {K:AV→Prop} (_:Box K):Prop:=
 match d,op with
 |.array n e,.eql=>HK (T e) n xs ys (bx fun b=>K (bv b))
 |.array n e,.neq=>HK (T e) n xs ys (bx fun b=>K (bv (!b)))
 |_,_=>False
def zt (T:Nat→TI) (d:TypeDesc) (op:BinOp) (x y:AV) {K:AV→Prop} (k:Box K):Prop:=
 match x,y with
 |.one (.d (.int k1 a)),.one (.d (.int k2 b))=>sameKind op k1 k2∧kW op k1 a b k
 |.one (.d (.str a)),.one (.d (.str b))=>zr op a b k
 |.one (.d (.bool a)),.one (.d (.bool b))=>HJ d op a b k
 |.agg xs,.agg ys=>Pm T d op xs ys k
 |_,_=>False
def unA (op:UnOp) (x:AV) {K:AV→Prop} (_:Box K):Prop:=
 match op,x with
 |.not,.one (.d (.bool b))=>K (bv (!b))
 |.neg,.one (.d (.int k n))=>K (iv k (k.wrap (0-n)))
 |_,_=>False
def contents (s:St) (str sl:Bool) (sz:Nat) (x:AV) {K:Nat→List C→Prop} (_:Box K):Prop:=
 match x with
 |.one (.d .nsl)=>sl=true∧K 0 []
 |.one (.d (.sl es))=>sl=true∧(∀e∈es,e.length=sz)∧K es.length (es.flatten.map .d)
 |.one (.d (.str bs))=>str=true∧sz=1∧K bs.length (bs.map fun b=>.d (uP b))
 |.one (.osl id g sz' off len)=>sl=true∧s.gen id=g∧sz'=sz∧aM (s.obj id) (bx fun cells=>off+len*sz≤cells.length∧K len ((cells.drop off).take (len*sz)))
 |_=>False
def u8s:List C→Option (List Int)
 |[]=>some []
 |.d (.int .u8 n)::r=>(u8s r).map (n :: ·)
 |_=>none
def vV:TypeDesc→Bool
 |.int .u8=>true
 |_=>false
def rj (s:St) (el:TypeDesc) (src dst:TypeDesc) (x:AV) {K:AV→Prop} (_:Box K):Prop:=
 match src,dst,x with
 |sr,.int k,.one (.d (.int _ n))=>okD sr=true∧K (iv k (k.wrap n))
 |.string,.string,.one (.d (.str b))=>K (sv b)
 |.slice _,.string,y=>vV el=true∧contents s false true 1 y (bx fun _ cs=>aM (u8s cs) (bx fun ns=>K (sv (ns.map fun n=>UInt8.ofNat n.toNat))))
 |_,_,_=>False
def sB (n bytes:Nat):Prop:=0<bytes∧(2*n+1024)*bytes≤281474976710656
def kX (e:Nat) (ti:TI) (str sl:Bool) (i d:Nat) (s:St) (x y:AV) {K:St→Prop} (_:Box K):Prop:=
 match x with
 |.one (.d .nsl)=>contents s str sl ti.size y (bx fun n cs=>sB n ti.bytes∧K ((s.newC (e+1) i cs).put (some d) (.one (.osl i (nxC (e+1) (s.gen i)) ti.size 0 n))))
 | .one (.osl id g sz off len)=>s.gen id=g∧sz=ti.size∧aM (s.obj id) (bx fun cells=>off+len*sz≤cells.length∧
    contents s str sl ti.size y (bx fun n cs=>sB (len+n) ti.bytes∧
     K ((s.newC (apC e (s.gen id) off) id ((cells.drop off).take (len*sz)++cs)).put (some d) (.one (.osl id (nxC (apC e (s.gen id) off) (s.gen id)) ti.size 0 (len+n))))))
 |_=>False
def xd (s:St) (str sl:Bool) (x:AV) {K:AV→Prop} (_:Box K):Prop:=
 match x with
 |.one (.d .nsl)=>sl=true∧K (iv .i64 0)
 |.one (.d (.sl es))=>sl=true∧K (iv .i64 es.length)
 |.one (.d (.str bs))=>str=true∧K (iv .i64 bs.length)
 |.one (.osl id g _ _ len)=>sl=true∧s.gen id=g∧(s.obj id).isSome=true∧K (iv .i64 len)
 |.one (.lsl n)=>sl=true∧K (iv .i64 n)
 |_=>False
def fe (o:Option AV) (els:Nat) {K:Nat→Prop} (_:Box K):Prop:=
 match o with
 |none=>K els
 |some (.one (.d (.int _ n)))=>0≤n∧K n.toNat
 |_=>False
def nW (s:St) (str sl:Bool) (sz:Nat) (x:AV) (lo hi:Option AV) {K:AV→Prop} (_:Box K):Prop:=
 match x with
 |.one (.d (.str bs))=>str=true∧fe hi bs.length (bx fun h=>fe lo 0 (bx fun l=>l≤h∧h≤bs.length∧K (sv ((bs.take h).drop l))))
 |.one (.d (.sl es))=>sl=true∧fe hi es.length (bx fun h=>fe lo 0 (bx fun l=>l≤h∧h≤es.length∧(∀x∈es,x.length=sz)∧K (.one (.d (.sl ((es.take h).drop l))))))
 |.one (.d .nsl)=>sl=true∧fe hi 0 (bx fun h=>fe lo 0 (bx fun l=>l=0∧h=0∧K (.one (.d .nsl))))
 |.one (.osl id g sz' off len)=>sl=true∧s.gen id=g∧(s.obj id).isSome=true∧fe hi len (bx fun h=>fe lo 0 (bx fun l=>l≤h∧h≤len∧sz'=sz∧K (.one (.osl id g sz (off+l*sz) (h-l)))))
 |_=>False
def HL (o:Option (List C)) (n:Nat):Prop:=∃l,o=some l∧n≤l.length
def kA (T:Nat→TI) (d:TypeDesc) (s:St) (x:AV) (lo hi:Option AV) {K:AV→Prop} (_:Box K):Prop:=
 match d with
 |.array n e=>
   match x with
   |.one (.ptr id g off)=>
     match lo with
     |none=>s.gen id=g∧okD (T e).desc=true∧HL (s.obj id) (off+n*(T e).size)∧fe hi n (bx fun h=>h≤n∧K (.one (.osl id g (T e).size off h)))
     |_=>False
   |_=>False
 |_=>False
def xe (sz:Nat):(k:Nat)→(ps:List (Nat×AV))→{K:List C→Prop}→Box K→Prop
 |_,[],K,_=>K []
 |k,p::r,K,_=>p.1=k∧aM (cellsOf p.2) (bx fun cs=>cs.length=sz∧xe sz (k+1) r (bx fun rest=>K (cs++rest)))
def iS (e sz i d n:Nat) (s:St) (ps:List (Nat×AV)) {K:St→Prop} (_:Box K):Prop:=
 ps.length=n∧n*sz≤16777216∧xe sz 0 ps (bx fun cs=>K ((s.newC (e+1) i cs).put (some d) (.one (.osl i (nxC (e+1) (s.gen i)) sz 0 n))))
def fY (d:TypeDesc) (f:Nat):Option Field:=
 match d with
 |.struct fs=>fs[f]?
 |_=>none
def gq (T:Nat→TI) (t f:Nat) (s:St) (x:AV) {K:AV→Prop} (_:Box K):Prop:=
 match x with
 |.one (.ptr id g off)=>s.gen id=g∧(s.obj id).isSome=true∧aM (fY (T t).desc f) (bx fun fl=>(okD (T fl.type).desc=true∧(T fl.type).size≠0)∧K (.one (.ptr id g (off+fl.offset))))
 |.one (.d (.iptr cs))=>aM (fY (T t).desc f) (bx fun fl=>(okD (T fl.type).desc=true∧(T fl.type).size≠0)∧K (.one (.d (.iptr (cs.drop fl.offset)))))
 |_=>False
def pZ (T:Nat→TI) (t f:Nat) (x:AV) {K:AV→Prop} (k:Box K):Prop:=
 match x with
 |.agg cs=>aM (fY (T t).desc f) (bx fun fl=>okD (T fl.type).desc=true∧sy (T fl.type) cs fl.offset k)
 |_=>False
def rk (pl:Nat→Option (Nat×Nat)):(cells:List C)→(ps:List (Nat×AV))→{K:List C→Prop}→Box K→Prop
 |cells,[],K,_=>K cells
 |cells,p::r,_,k=>aM (pl p.1) (bx fun q=>aM (cellsOf p.2) (bx fun cs=>cs.length=q.2∧q.1+q.2≤cells.length∧rk pl (setAt cells q.1 cs) r k))
def placeOf (T:Nat→TI) (d:TypeDesc) (i:Nat):Option (Nat×Nat):=
 match d with
 |.array _ e=>some (i*(T e).size,(T e).size)
 |d=>(fY d i).bind fun fl=>bif okD (T fl.type).desc then some (fl.offset,(T fl.type).size) else none
def fA (T:Nat→TI) (t:Nat):Bool:=match (T t).desc with|.struct fs=>fs.toList.all fun f=>okD (T f.type).desc|.array _ e=>okD (T e).desc|_=>false
def eE (T:Nat→TI) (t:Nat) (ps:List (Nat×AV)) {K:AV→Prop} (_:Box K):Prop:=
 fA T t=true∧rk (placeOf T (T t).desc) ((T t).zero.map .d) ps (bx fun cs=>K (.agg cs))
def HM (t i d:Nat) (s:St) (x:AV) {K:St→Prop} (_:Box K):Prop:=
 aM (cellsOf x) (bx fun cs=>K ((s.newC (t+1) i cs).put (some d) (.one (.ptr i (nxC (t+1) (s.gen i)) 0))))
def vW (t:Nat) (ti:TI) (i d:Nat) (s:St) {K:St→Prop} (_:Box K):Prop:=
 okD ti.desc=true∧K ((s.newC (t+1) i (ti.zero.map .d)).put (some d) (.one (.ptr i (nxC (t+1) (s.gen i)) 0)))
def iF (s:St) (x:AV) {K:AV→Prop} (_:Box K):Prop:=
 match x with
 |.one (.ptr id g off)=>s.gen id=g∧(s.obj id).isSome=true∧K (.one (.ptr id g off))
 |.one (.d (.iptr cs))=>K (.one (.d (.iptr cs)))
 |_=>False
def mm (x:AV) (i:Nat) {K:AV→Prop} (k:Box K):Prop:=
 match x with
 |.tup ts=>aM (ts[i]?) k
 |_=>False
def mxA (mx:Bool) (x y:AV) {K:AV→Prop} (_:Box K):Prop:=
 match x,y with
 |.one (.d (.int k a)),.one (.d (.int _ b))=>K (iv k (if mx then max a b else min a b))
 |_,_=>False
def iG (e:Nat) (ti:TI) (i d:Nat) (s:St) (l c:AV) {K:St→Prop} (_:Box K):Prop:=
 match l,c with
 |.one (.d (.int _ n)),.one (.d (.int _ m))=>0≤n∧n≤m∧m≤4611686018427387904∧m*ti.bytes≤281474976710656∧
    K ((s.newC (e+1) i (List.replicate m.toNat (ti.zero.map C.d)).flatten).put (some d) (.one (.osl i (nxC (e+1) (s.gen i)) ti.size 0 n.toNat)))
 |_,_=>False
def cP:Nat→TypeDesc
 |0=>.int .i8|1=>.int .i16|2=>.int .i32|3=>.int .i64|4=>.int .u8|5=>.int .u16|6=>.int .u32|7=>.int .u64
 |8=>.string
 |9=>.bool
 |_=>.invalid
def jo:TypeDesc→Nat
 |.int .i8=>0|.int .i16=>1|.int .i32=>2|.int .i64=>3|.int .u8=>4|.int .u16=>5|.int .u32=>6|.int .u64=>7
 |.string=>8
 |_=>9
def fM:TypeDesc→D→Bool
 |.int k,.int k' _=>k'=k
 |.string,.str _=>true
 |.bool,.bool _=>true
 |_,_=>false
def jk:D→D→Bool
 |.int k n,.int k' n'=>k=k'&&n=n'
 |.str s,.str s'=>s=s'
 |.bool b,.bool b'=>b=b'
 |_,_=>false
def mget:List C→D→Option C
 |.d k'::c::r,k=>if jk k' k then some c else mget r k
 |_,_=>none
def mset:List C→D→C→List C
 |.d k'::c::r,k,x=>if jk k' k then .d k'::x::r else .d k'::c::mset r k x
 |_,k,x=>[.d k,x]
def uR (agg:Bool) (n:Nat):Nat:=match agg with|true=>200+n|false=>n
def kB (T:Nat→TI) (t i d:Nat) (s:St) {K:St→Prop} (_:Box K):Prop:=
 match (T t).desc with
 |.map kt et=>cP (jo (T kt).desc)=(T kt).desc∧K ((s.newC 0 i []).put (some d) (.one (.mp i (nxC 0 (s.gen i)) (uR (cU (T et).desc) (jo (T kt).desc)))))
 |_=>False
def rm (ok:Bool) (z:D) (c:Option C):AV:=if ok then .tup [.one (c.getD (.d z)),bv c.isSome] else .one (c.getD (.d z))
def xf (ti:TI) {K:D→Prop} (_:Box K):Prop:=
 match ti.zero with
 |[z]=>(okD ti.desc=true∧cU ti.desc=false)∧K z
 |_=>False
def uw (z:List D):Option C→List D
 |some (.d (.iptr ds))=>ds
 |_=>z
def kY (ok:Bool) (z:List D) (c:Option C):AV:=match ok with|true=>.tup [.agg ((uw z c).map .d),bv c.isSome]|false=>.agg ((uw z c).map .d)
def xg (ti:TI) {K:List D→Prop} (_:Box K):Prop:=(okD ti.desc=true∧2≤ti.zero.length)∧K ti.zero
def kZ (T:Nat→TI) (t:Nat) (s:St) (x ix:AV) (ok:Bool) {K:AV→Prop} (_:Box K):Prop:=
 match (T t).desc,ix with
 |.map kt et,.one (.d k)=>(okD (T kt).desc=true∧fM (T kt).desc k=true)∧
   match cU (T et).desc with
   | false=>xf (T et) (bx fun z=>
     match x with
     |.one (.mp id g kd)=>s.gen id=g∧cP kd=(T kt).desc∧aM (s.obj id) (bx fun cells=>K (rm ok z (mget cells k)))
     |.one (.d .nilm)=>K (rm ok z none)
     | _=>False)
   | true=>xg (T et) (bx fun z=>
     match x with
     |.one (.mp id g kd)=>s.gen id=g∧(200≤kd∧cP (kd-200)=(T kt).desc)∧aM (s.obj id) (bx fun cells=>K (kY ok z (mget cells k)))
     |.one (.d .nilm)=>K (kY ok z none)
     | _=>False)
 |_,_=>False
def datas:List C→Option (List D)
 |[]=>some []
 |.d x::r=>(datas r).map (x :: ·)
 |_=>none
def dG (T:Nat→TI) (t:Nat) (s:St) (m ix x:AV) {K:St→Prop} (_:Box K):Prop:=
 match (T t).desc,ix,m,x with
 |.map kt _,.one (.d k),.one (.mp id g kd),.one c=>(okD (T kt).desc=true∧fM (T kt).desc k=true)∧s.gen id=g∧cP kd=(T kt).desc∧aM (s.obj id) (bx fun cells=>K { s with obj:=upd s.obj id (some (mset cells k c))})
 |.map kt _,.one (.d k),.one (.mp id g kd),.agg cs=>(okD (T kt).desc=true∧fM (T kt).desc k=true)∧s.gen id=g∧(200≤kd∧cP (kd-200)=(T kt).desc)∧aM (datas cs) (bx fun ds=>aM (s.obj id) (bx fun cells=>K { s with obj:=upd s.obj id (some (mset cells k (.d (.iptr ds))))}))
 |_,_,_,_=>False
def Cn:AV→Option PC
 |.one (.d x)=>some (.d x)
 |.one (.ptr id g off)=>some (.ptr id g off)
 |_=>none
def kC:List AV→Option (List PC)
 |[]=>some []
 |x::xs=>(Cn x).bind fun p=>(kC xs).bind fun ps=>some (p::ps)
def iH (f:FuncId) (first caps:List AV) {K:AV→Prop} (_:Box K):Prop:=
 match first with
 |[]=>f<1000000∧aM (kC caps) (bx fun l=>K (.one (.clo f l)))
 |x::r=>caps=[]∧aM (kC (x::r)) (bx fun l=>K (.one (.clo (f+1000000) l)))
def aH (T:Nat→TI) (t:Nat):Nat:=
 match (T t).desc with
 |.slice e=>e
 |_=>0
def aO (T:Nat→TI) (t:Nat):TI:=
 match (T t).desc with
 |.slice e=>T e
 |_=>default
def sC (s:St) (c:Call) (i:Nat):AV:=s.ev (c.args.getD i (.const .nilFunc))
structure Sp where
 op:Oper→St→(St→Prop)→Prop
 code:Code→St→(Exit→St→Prop)→Prop
 vs:St→St→Prop
 base:Nat
def bj (S:Sp) (o:Oper) (s:St) {K:St→Prop} (_:Box K):Prop:=∃R,S.op o s R∧∀s',R s'→K s'
def Kx (S:Sp) (c:Code) (s:St) {Q:Exit→St→Prop} (_:Box Q):Prop:=∃R,S.code c s R∧∀e s',R e s'→Q e s'
def isSlice (d:TypeDesc):Bool:=match d with|.slice _=>true|_=>false
def dH (T:Nat→TI):Op→Bool
 |.indexAddr _ x _=>match x with|.global _=>false|_=>true
 |.move _|.assign _|.pick .. | .load .. | .index .. | .binOp .. | .unOp .. | .slice _ _ _ _ none|.fieldAddr .. | .field .. | .build .. | .nilCheck _|.extract .. | .lookup .. | .makeFunc (.func _) _ _=>true
 |.convert _ d _=>!isSlice (T d).desc
 |.call c=>match c.callee with|.builtin .len|.builtin .max|.builtin .min=>true|_=>false
 |_=>false
def mn (T:Nat→TI) (ops:Array Oper):Bool:=
 (ops.toList.all (dH T ·.op)&&Region.lexB .any ops) ||
 [1,2,3,4].any fun k=>(ops.toList.take (ops.size-k)).all (dH T ·.op)&&Region.lexTailB .any ops (ops.size-k)
def isStr (d:TypeDesc):Bool:=match d with|.string=>true|_=>false
def cM (T:Nat→TI) (t:Nat):Bool:=isSlice (T t).desc&&okD (aO T t).desc
def lf (T:Nat→TI) (src d base:Nat) (dst:Option Nat) (s:St) (x:AV) {K:St→Prop} (_:Box K):Prop:=
 match dst,x with
 |some dd,.one (.d (.str bs))=>isStr (T src).desc=true∧vV (aO T d).desc=true∧K ((s.newC (aH T d+1) (base+dd) (bs.map fun b=>.d (uP b))).put (some dd) (.one (.osl (base+dd) (nxC (aH T d+1) (s.gen (base+dd))) 1 0 bs.length)))
 |_,_=>False
def Pn (S:Sp) (T:Nat→TI) (o:Oper) (c:Call) (s:St) {K:St→Prop} (k:Box K):Prop:=
 match c.callee,o.dst with
 |.builtin .len,dst=>(c.args.size=1∧c.argTypes.size=1)∧xd s (isStr (T (c.argTypes.getD 0 0)).desc) (cM T (c.argTypes.getD 0 0)) (sC s c 0) (bx fun v=>K (s.put dst v))
 |.builtin .max,dst=>c.args.size=2∧mxA true (sC s c 0) (sC s c 1) (bx fun v=>K (s.put dst v))
 |.builtin .min,dst=>c.args.size=2∧mxA false (sC s c 0) (sC s c 1) (bx fun v=>K (s.put dst v))
 |.builtin .append,some d=>(c.args.size=2∧c.argTypes.size=2)∧cM T (c.argTypes.getD 0 0)=true∧kX (aH T (c.argTypes.getD 0 0)) (aO T (c.argTypes.getD 0 0)) (isStr (T (c.argTypes.getD 1 0)).desc) (cM T (c.argTypes.getD 1 0)) (S.base+d) d s (sC s c 0) (sC s c 1) k
 |_,_=>bj S o s k
def opA (S:Sp) (T:Nat→TI) (o:Oper) (s:St) {K:St→Prop} (k:Box K):Prop:=
 match o.op,o.dst with
 |.move x,dst=>K (s.put dst (s.ev x))
 |.assign x,dst=>K (s.put dst (s.ev x))
 |.pick c a b,dst=>nV (s.ev c) (bx fun t=>K (s.put dst (if t then s.ev a else s.ev b)))
 |.load t a,dst=>ri (T t) s (s.ev a) (bx fun v=>K (s.put dst v))
 |.store t a x,dst=>pY (T t) s (s.ev a) (s.ev x) (bx fun s'=>K (s'.put dst uv))
 |.indexAddr t x ix,dst=>match x with
   |.global _=>bj S o s k
   |x=>bif ml (T t).desc then kz T (T t).desc s (s.ev x) (s.ev ix) (bx fun v=>K (s.put dst v)) else cM T t=true∧gp s (aO T t).size (s.ev x) (s.ev ix) (bx fun v=>K (s.put dst v))
 |.index t x ix,dst=>isStr (T t).desc=true∧sA (s.ev x) (s.ev ix) (bx fun v=>K (s.put dst v))
 |.binOp op t x y _,dst=>zt T (T t).desc op (s.ev x) (s.ev y) (bx fun v=>K (s.put dst v))
 |.unOp op _ x,dst=>unA op (s.ev x) (bx fun v=>K (s.put dst v))
 |.convert src d x,dst=>bif isSlice (T d).desc then lf T src d S.base dst s (s.ev x) k else rj s (aO T src).desc (T src).desc (T d).desc (s.ev x) (bx fun v=>K (s.put dst v))
 |.slice t x lo hi none,dst=>bif ml (T t).desc then kA T (T t).desc s (s.ev x) (lo.map s.ev) (hi.map s.ev) (bx fun v=>K (s.put dst v)) else nW s (isStr (T t).desc) (cM T t) (aO T t).size (s.ev x) (lo.map s.ev) (hi.map s.ev) (bx fun v=>K (s.put dst v))
 |.buildSlice t n ps,some d=>cM T t=true∧iS (aH T t) (aO T t).size (S.base+d) d n s (ps.toList.map fun p=>(p.1,s.ev p.2)) k
 |.makeSlice t l c,some d=>cM T t=true∧iG (aH T t) (aO T t) (S.base+d) d s (s.ev l) (s.ev c) k
 |.fieldAddr t x f,dst=>gq T t f s (s.ev x) (bx fun v=>K (s.put dst v))
 |.field t x f,dst=>pZ T t f (s.ev x) (bx fun v=>K (s.put dst v))
 |.build t ps,dst=>eE T t (ps.toList.map fun p=>(p.1,s.ev p.2)) (bx fun v=>K (s.put dst v))
 |.nilCheck x,dst=>iF s (s.ev x) (bx fun v=>K (s.put dst v))
 |.extract x i,dst=>mm (s.ev x) i (bx fun v=>K (s.put dst v))
 |.box t x,some d=>HM t (S.base+d) d s (s.ev x) k
 |.alloc t,some d=>vW t (T t) (S.base+d) d s k
 |.makeMap t none,some d=>kB T t (S.base+d) d s k
 |.lookup t x ix ok,dst=>kZ T t s (s.ev x) (s.ev ix) ok (bx fun v=>K (s.put dst v))
 |.mapUpdate t m ix x,dst=>dG T t s (s.ev m) (s.ev ix) (s.ev x) (bx fun s'=>K (s'.put dst uv))
 |.makeFunc (.func f) first caps,dst=>iH f (first.toList.map s.ev) (caps.toList.map s.ev) (bx fun v=>K (s.put dst v))
 |.call c,_=>Pn S T o c s k
 |_,_=>bj S o s k
def wpO (S:Sp) (T:Nat→TI) (ops:Array Oper):List Oper→(s:St)→{K:St→Prop}→(k:Box K)→Prop
 |[],s,K,_=>K s
 |o::rest,s,K,k=>
   match o.guard with
   |none=>opA S T o s (bx fun s'=>wpO S T ops rest s' k)
   |some (j,want)=>
     aM ((ops[j]?).bind (·.dst)) (bx fun d=>
      kV (s.f d) (bx fun b=>if b=want then opA S T o { s with f:=upd s.f d (bv b)} (bx fun s'=>wpO S T ops rest s' k)
       else wpO S T ops rest ({ s with f:=upd s.f d (bv b)}.put o.dst uv) k) (bx (wpO S T ops rest (s.put o.dst uv) k)))
def jD {next:St→Prop} (_:Box next) {Q:Exit→St→Prop} (_:Box Q):Exit→St→Prop
 |.normal,s=>next s
 |e,s=>Q e s
def ig (id:Nat) {Q:Exit→St→Prop} (_:Box Q):Exit→St→Prop
 |.exit id',s=>if id'=id then Q .normal s else Q (.exit id') s
 |e,s=>Q e s
def pg (S:Sp) {B:(Exit→St→Prop)→St→Prop} (_:Box B) {Q:Exit→St→Prop} (q:Box Q) (s:St):Prop:=
 ∃I:Nat→St→Prop,(∃n s₁,S.vs s s₁∧I n s₁)∧∀n s,I n s→B (jD (bx fun s'=>∃n' s₁,n'<n∧S.vs s' s₁∧I n' s₁) q) s
def ph {Q:Exit→St→Prop} (_:Box Q):Exit→St→Prop
 |.goto _,_=>False
 |e,s=>Q e s
def jE (S:Sp) (T:Nat→TI) (id:Nat) (ops:Array Oper) (s:St) {Q:Exit→St→Prop} (q:Box Q):Prop:=
 (mn T ops=true∧wpO S T ops ops.toList s (bx fun s'=>Q .normal s'))∨Kx S (.region id ops true) s q
def wpC (S:Sp) (T:Nat→TI):Code→{Q:Exit→St→Prop}→(q:Box Q)→St→Prop
 |.skip,Q,_,s=>Q .normal s
 |.label _,Q,_,s=>Q .normal s
 |.region id ops b,Q,q,s=>match b with|true=>jE S T id ops s q|false=>wpO S T ops ops.toList s (bx fun s'=>Q .normal s')
 |.seq x y,Q,q,s=>wpC S T x (bx (jD (bx fun s'=>wpC S T y q s') q)) s
 |.cond c x y,Q,q,s=>nV (s.ev c) (bx fun b=>if b then wpC S T x q s else wpC S T y q s)
 |.block id c,Q,q,s=>wpC S T c (bx (ig id q)) s
 |.loop c,Q,q,s=>pg S (bx fun Q s=>wpC S T c (bx Q) s) q s
 |.exit id,Q,_,s=>Q (.exit id) s
 |.ret,Q,_,s=>Q .ret s
 |.scope c,_,q,s=>wpC S T c (bx (ph q)) s
 |.goto l,Q,_,s=>Q (.goto l) s
 |c,_,q,s=>Kx S c s q
variable {K:AV→Prop}{s:St}{ty:TypeId}{ps:String}{af:Array Edge}{gd:Option (Nat×Bool)}{dst:Option Tmp}{x:Operand}{t:TypeId}{n:Nat}{Q:Exit→St→Prop}{d:Tmp}{a:Array Operand}{ts:Array TypeId}{next:St→Prop}{c:Code}{ix:Operand}{p:Array (Nat×Operand)}{l:List Oper}{q:Box Q}{b:Box next}
section equations
variable {S:Sp}{T:Nat→TI}
@[go_sem] theorem Ky {K:Bool→Prop} (k:Box K):ie true k=K true:=by simp[ie]
@[go_sem] theorem HN {K:Bool→Prop} (k:Box K):ie false k=K false:=by simp[ie]
@[go_sem] theorem Hv (p:Prop) [Decidable p] {K:Bool→Prop} (k:Box K):ie (decide p) k=((p→K true)∧(¬p→K false)):=by simp[ie]
@[go_sem] theorem LP (b:Bool) {K:Bool→Prop} (k:Box K):ie (!b) k=ie b (bx fun t=>K (!t)):=by cases b <;> simp[ie]
@[go_sem] theorem Kz {α:Type} (a:α) {K:α→Prop} (k:Box K):aM (some a) k=K a:=j9 rfl rfl
@[go_sem] theorem Oi (b:Bool) {K:Bool→Prop} (k:Box K):nV (.one (.d (.bool b))) k=ie b k:=j9 rfl rfl
@[go_sem] theorem Oj (b:Bool) {K:Bool→Prop} (k:Box K) {U:Prop} (u:Box U):kV (.one (.d (.bool b))) k u=ie b k:=j9 rfl rfl
@[go_sem] theorem Po {K:Bool→Prop} (k:Box K) {U:Prop} (u:Box U):kV (.tup []) k u=U:=j9 rfl rfl
@[go_sem] theorem KA :cU .bool=false:=j9 rfl rfl
@[go_sem] theorem Pp :okD .bool=true:=j9 rfl rfl
@[go_sem] theorem LQ (kd:IntKind):cU (.int kd)=false:=j9 rfl rfl
@[go_sem] theorem KB (kd:IntKind):isSlice (.int kd)=false:=j9 rfl rfl
@[go_sem] theorem Ss (kd:IntKind):okD (.int kd)=true:=j9 rfl rfl
@[go_sem] theorem Hw :cU .string=false:=j9 rfl rfl
@[go_sem] theorem DR :isSlice .string=false:=j9 rfl rfl
@[go_sem] theorem HO :ml .string=false:=j9 rfl rfl
@[go_sem] theorem LR :okD .string=true:=j9 rfl rfl
@[go_sem] theorem HP :isStr .string=true:=j9 rfl rfl
@[go_sem] theorem DS (e:TypeId):cU (.pointer e)=false:=j9 rfl rfl
@[go_sem] theorem KC (e:TypeId):okD (.pointer e)=true:=j9 rfl rfl
@[go_sem] theorem HQ (e:TypeId):cU (.slice e)=false:=j9 rfl rfl
@[go_sem] theorem Hx (e:TypeId):isSlice (.slice e)=true:=j9 rfl rfl
@[go_sem] theorem KD (e:TypeId):ml (.slice e)=false:=j9 rfl rfl
@[go_sem] theorem Ok (e:TypeId):okD (.slice e)=true:=j9 rfl rfl
@[go_sem] theorem KE (e:TypeId):isStr (.slice e)=false:=j9 rfl rfl
@[go_sem] theorem HR (n:Nat) (e:TypeId):cU (.array n e)=true:=j9 rfl rfl
@[go_sem] theorem KF (n:Nat) (e:TypeId):ml (.array n e)=true:=j9 rfl rfl
@[go_sem] theorem Ol (n:Nat) (e:TypeId):okD (.array n e)=true:=j9 rfl rfl
@[go_sem] theorem LS (a b:TypeId):cU (.map a b)=false:=j9 rfl rfl
@[go_sem] theorem Su (a b:TypeId):okD (.map a b)=true:=j9 rfl rfl
@[go_sem] theorem Hy (fs:Array Field):cU (.struct fs)=true:=j9 rfl rfl
@[go_sem] theorem LT (fs:Array Field):okD (.struct fs)=true:=j9 rfl rfl
@[go_sem] theorem KG (ps rs:Array TypeId) (v:Bool):cU (.func ps rs v)=false:=j9 rfl rfl
@[go_sem] theorem Pq (ps rs:Array TypeId) (v:Bool):okD (.func ps rs v)=true:=j9 rfl rfl
@[go_sem] theorem Om (d:TypeDesc) (n b:Nat) (z:List D) (cells:List C) (off:Nat) (k:Box K):sy ⟨d,n,b,z⟩ cells off k=(match cU d with|true=>off+n≤cells.length∧K (.agg ((cells.drop off).take n))|false=>aM (cells[off]?) (bx fun c=>K (.one c))):=j9 rfl rfl
@[go_sem] theorem On (d:TypeDesc) (n b:Nat) (z:List D) (cs:List D) (k:Box K):Ba ⟨d,n,b,z⟩ cs k=(match cU d with|true=>n≤cs.length∧K (.agg ((cs.take n).map .d))|false=>aM (cs[0]?) (bx fun c=>K (.one (.d c)))):=j9 rfl rfl
@[go_sem] theorem Oo (ti:TI) (s:St) (id g off:Nat) (k:Box K):ri ti s (.one (.ptr id g off)) k=(okD ti.desc=true∧s.gen id=g∧aM (s.obj id) (bx fun cells=>sy ti cells off k)):=j9 rfl rfl
@[go_sem] theorem LU (ti:TI) (s:St) (cs:List D) (k:Box K):ri ti s (.one (.d (.iptr cs))) k=(okD ti.desc=true∧Ba ti cs k):=j9 rfl rfl
@[go_sem] theorem LV (ti:TI) (s:St) (id g off:Nat) (x:AV) {K:St→Prop} (k:Box K):pY ti s (.one (.ptr id g off)) x k=(okD ti.desc=true∧s.gen id=g∧aM (cellsOf x) (bx fun cs=>cs.length=ti.size∧aM (s.obj id) (bx fun cells=>off+cs.length≤cells.length∧K { s with obj:=upd s.obj id (some (setAt cells off cs))}))):=j9 rfl rfl
@[go_sem] theorem KH (c:C):cellsOf (.one c)=some [c]:=j9 rfl rfl
@[go_sem] theorem KI (cs:List C):cellsOf (.agg cs)=some cs:=j9 rfl rfl
@[go_sem] theorem Oq (cells:List C) (off:Nat):setAt cells off []=cells:=j9 rfl rfl
@[go_sem] theorem LW (cells:List C) (off:Nat) (c:C) (cs:List C):setAt cells off (c::cs)=setAt (cells.set off c) (off+1) cs:=j9 rfl rfl
@[go_sem] theorem HS (T:Nat→TI) (n:Nat) (e:TypeId) (s:St) (id g off:Nat) (kd:IntKind) (i:Int) (k:Box K):kz T (.array n e) s (.one (.ptr id g off)) (.one (.d (.int kd i))) k=(s.gen id=g∧(s.obj id).isSome=true∧okD (T e).desc=true∧0≤i∧i<n∧K (.one (.ptr id g (off+i.toNat*(T e).size)))):=j9 rfl rfl
@[go_sem] theorem Hz (s:St) (sz:Nat) (es:List (List D)) (kd:IntKind) (i:Int) (k:Box K):gp s sz (.one (.d (.sl es))) (.one (.d (.int kd i))) k=(0≤i∧aM (es[i.toNat]?) (bx fun c=>c.length=sz∧K (.one (.d (.iptr c))))):=j9 rfl rfl
@[go_sem] theorem DT (s:St) (sz id g sz' off len:Nat) (kd:IntKind) (i:Int) (k:Box K):gp s sz (.one (.osl id g sz' off len)) (.one (.d (.int kd i))) k=(s.gen id=g∧(s.obj id).isSome=true∧0≤i∧i<len∧sz'=sz∧K (.one (.ptr id g (off+i.toNat*sz)))):=j9 rfl rfl
@[go_sem] theorem LX (s:List UInt8) (kd:IntKind) (i:Int) (k:Box K):sA (.one (.d (.str s))) (.one (.d (.int kd i))) k=(0≤i∧aM (s[i.toNat]?) (bx fun c=>K (iv .u8 c.toNat))):=j9 rfl rfl
@[go_sem] theorem Pr (kd:IntKind) (x y:Int) (k:Box K):kW .add kd x y k=K (iv kd (kd.wrap (x+y))):=j9 rfl rfl
@[go_sem] theorem HT (a b:IntKind):sameKind .add a b=(a=b):=j9 rfl rfl
@[go_sem] theorem Ps (kd:IntKind) (x y:Int) (k:Box K):kW .sub kd x y k=K (iv kd (kd.wrap (x-y))):=j9 rfl rfl
@[go_sem] theorem HU (a b:IntKind):sameKind .sub a b=(a=b):=j9 rfl rfl
@[go_sem] theorem Pt (kd:IntKind) (x y:Int) (k:Box K):kW .mul kd x y k=K (iv kd (kd.wrap (x*y))):=j9 rfl rfl
@[go_sem] theorem HV (a b:IntKind):sameKind .mul a b=(a=b):=j9 rfl rfl
@[go_sem] theorem Pu (kd:IntKind) (x y:Int) (k:Box K):kW .quo kd x y k=(y≠0∧K (iv kd (kd.wrap (x.tdiv y)))):=j9 rfl rfl
@[go_sem] theorem HW (a b:IntKind):sameKind .quo a b=(a=b):=j9 rfl rfl
@[go_sem] theorem Pv (kd:IntKind) (x y:Int) (k:Box K):kW .rem kd x y k=(y≠0∧K (iv kd (x.tmod y))):=j9 rfl rfl
@[go_sem] theorem HX (a b:IntKind):sameKind .rem a b=(a=b):=j9 rfl rfl
@[go_sem] theorem Pw (kd:IntKind) (x y:Int) (k:Box K):kW .eql kd x y k=K (bv (decide (x=y))):=j9 rfl rfl
@[go_sem] theorem HY (a b:IntKind):sameKind .eql a b=(a=b):=j9 rfl rfl
@[go_sem] theorem Px (kd:IntKind) (x y:Int) (k:Box K):kW .neq kd x y k=K (bv (decide (x≠y))):=j9 rfl rfl
@[go_sem] theorem HZ (a b:IntKind):sameKind .neq a b=(a=b):=j9 rfl rfl
@[go_sem] theorem Py (kd:IntKind) (x y:Int) (k:Box K):kW .lss kd x y k=K (bv (decide (x<y))):=j9 rfl rfl
@[go_sem] theorem Ia (a b:IntKind):sameKind .lss a b=(a=b):=j9 rfl rfl
@[go_sem] theorem Pz (kd:IntKind) (x y:Int) (k:Box K):kW .leq kd x y k=K (bv (decide (x≤y))):=j9 rfl rfl
@[go_sem] theorem Ib (a b:IntKind):sameKind .leq a b=(a=b):=j9 rfl rfl
@[go_sem] theorem PA (kd:IntKind) (x y:Int) (k:Box K):kW .gtr kd x y k=K (bv (decide (y<x))):=j9 rfl rfl
@[go_sem] theorem Ic (a b:IntKind):sameKind .gtr a b=(a=b):=j9 rfl rfl
@[go_sem] theorem PB (kd:IntKind) (x y:Int) (k:Box K):kW .geq kd x y k=K (bv (decide (y≤x))):=j9 rfl rfl
@[go_sem] theorem Ie (a b:IntKind):sameKind .geq a b=(a=b):=j9 rfl rfl
@[go_sem] theorem PD (kd:IntKind) (x y:Int) (k:Box K):kW .and kd x y k=K (iv kd (kd.wrap (BitVec.ofInt kd.bits x &&&BitVec.ofInt kd.bits y).toNat)):=j9 rfl rfl
@[go_sem] theorem If (a b:IntKind):sameKind .and a b=(a=b):=j9 rfl rfl
@[go_sem] theorem Sv (kd:IntKind) (x y:Int) (k:Box K):kW .or kd x y k=K (iv kd (kd.wrap (BitVec.ofInt kd.bits x |||BitVec.ofInt kd.bits y).toNat)):=j9 rfl rfl
@[go_sem] theorem KJ (a b:IntKind):sameKind .or a b=(a=b):=j9 rfl rfl
@[go_sem] theorem PE (kd:IntKind) (x y:Int) (k:Box K):kW .shl kd x y k=(0≤y∧K (iv kd (kd.wrap (x*2^(min y.toNat kd.bits))))):=j9 rfl rfl
@[go_sem] theorem Ig (a b:IntKind):sameKind .shl a b=True:=j9 rfl rfl
@[go_sem] theorem PF (kd:IntKind) (x y:Int) (k:Box K):kW .shr kd x y k=(0≤y∧K (iv kd (x.fdiv (2^(min y.toNat kd.bits))))):=j9 rfl rfl
@[go_sem] theorem Ih (a b:IntKind):sameKind .shr a b=True:=j9 rfl rfl
@[go_sem] theorem PG (x y:List UInt8) (k:Box K):zr .add x y k=(((x.length+y.length:Nat):Int)≤9223372036854775807∧K (sv (x++y))):=j9 rfl rfl
@[go_sem] theorem PH (x y:List UInt8) (k:Box K):zr .eql x y k=K (bv (decide (x=y))):=j9 rfl rfl
@[go_sem] theorem PI (x y:List UInt8) (k:Box K):zr .neq x y k=K (bv (decide (x≠y))):=j9 rfl rfl
@[go_sem] theorem PJ (d:TypeDesc) (op:BinOp) (k1 k2:IntKind) (a b:Int) (k:Box K):zt T d op (.one (.d (.int k1 a))) (.one (.d (.int k2 b))) k=(sameKind op k1 k2∧kW op k1 a b k):=j9 rfl rfl
@[go_sem] theorem PK (d:TypeDesc) (op:BinOp) (a b:List UInt8) (k:Box K):zt T d op (.one (.d (.str a))) (.one (.d (.str b))) k=zr op a b k:=j9 rfl rfl
@[go_sem] theorem Ot (d:TypeDesc) (op:BinOp) (a b:Bool) (k:Box K):zt T d op (.one (.d (.bool a))) (.one (.d (.bool b))) k=HJ d op a b k:=j9 rfl rfl
@[go_sem] theorem PL (a b:Bool) (k:Box K):HJ .bool .neq a b k=K (bv (decide (a≠b))):=j9 rfl rfl
@[go_sem] theorem Sw (b:Bool) (k:Box K):unA .not (.one (.d (.bool b))) k=K (bv (!b)):=j9 rfl rfl
@[go_sem] theorem Ou (st:St) (el:TypeDesc) (src:TypeDesc) (kd k2:IntKind) (n:Int) (k:Box K):rj st el src (.int kd) (.one (.d (.int k2 n))) k=(okD src=true∧K (iv kd (kd.wrap n))):=by cases src <;> rfl
@[go_sem] theorem KK (st:St) (el:TypeDesc) (e:TypeId) (y:AV) (k:Box K):rj st el (.slice e) .string y k=(vV el=true∧contents st false true 1 y (bx fun _ cs=>aM (u8s cs) (bx fun ns=>K (sv (ns.map fun n=>UInt8.ofNat n.toNat))))):=by cases y <;> rfl
@[go_sem] theorem Sx:vV (.int .u8)=true:=j9 rfl rfl
@[go_sem] theorem KL (s:St) (bs bl:Bool) (sz:Nat) (es:List (List D)) {K:Nat→List C→Prop} (k:Box K):contents s bs bl sz (.one (.d (.sl es))) k=(bl=true∧(∀e∈es,e.length=sz)∧K es.length (es.flatten.map .d)):=j9 rfl rfl
@[go_sem] theorem Ii (s:St) (bs bl:Bool) (sz id g sz' off len:Nat) {K:Nat→List C→Prop} (k:Box K):contents s bs bl sz (.one (.osl id g sz' off len)) k=(bl=true∧s.gen id=g∧sz'=sz∧aM (s.obj id) (bx fun cells=>off+len*sz≤cells.length∧K len ((cells.drop off).take (len*sz)))):=j9 rfl rfl
@[go_sem] theorem KM (e:Nat) (ti:TI) (bs bl:Bool) (i d:Nat) (s:St) (y:AV) {K:St→Prop} (k:Box K):kX e ti bs bl i d s (.one (.d .nsl)) y k=contents s bs bl ti.size y (bx fun n cs=>sB n ti.bytes∧K ((s.newC (e+1) i cs).put (some d) (.one (.osl i (nxC (e+1) (s.gen i)) ti.size 0 n)))):=j9 rfl rfl
@[go_sem] theorem KN (e:Nat) (ti:TI) (bs bl:Bool) (i d:Nat) (s:St) (id g sz off len:Nat) (y:AV) {K:St→Prop} (k:Box K):kX e ti bs bl i d s (.one (.osl id g sz off len)) y k=(s.gen id=g∧sz=ti.size∧aM (s.obj id) (bx fun cells=>off+len*sz≤cells.length∧
   contents s bs bl ti.size y (bx fun n cs=>sB (len+n) ti.bytes∧
    K ((s.newC (apC e (s.gen id) off) id ((cells.drop off).take (len*sz)++cs)).put (some d) (.one (.osl id (nxC (apC e (s.gen id) off) (s.gen id)) ti.size 0 (len+n))))))):=j9 rfl rfl
@[go_sem] theorem Sy (s:St) (bs bl:Bool) (es:List (List D)) (k:Box K):xd s bs bl (.one (.d (.sl es))) k=(bl=true∧K (iv .i64 es.length)):=j9 rfl rfl
@[go_sem] theorem PM (s:St) (bs bl:Bool) (es:List UInt8) (k:Box K):xd s bs bl (.one (.d (.str es))) k=(bs=true∧K (iv .i64 es.length)):=j9 rfl rfl
@[go_sem] theorem PN (s:St) (bs bl:Bool) (id g sz off len:Nat) (k:Box K):xd s bs bl (.one (.osl id g sz off len)) k=(bl=true∧s.gen id=g∧(s.obj id).isSome=true∧K (iv .i64 len)):=j9 rfl rfl
@[go_sem] theorem KO (n:Nat) {K:Nat→Prop} (k:Box K):fe none n k=K n:=j9 rfl rfl
@[go_sem] theorem KP (n:Nat) (kd:IntKind) (i:Int) {K:Nat→Prop} (k:Box K):fe (some (.one (.d (.int kd i)))) n k=(0≤i∧K i.toNat):=j9 rfl rfl
@[go_sem] theorem LY (st:St) (bs bl:Bool) (sz:Nat) (s:List UInt8) (lo hi:Option AV) (k:Box K):nW st bs bl sz (.one (.d (.str s))) lo hi k=(bs=true∧fe hi s.length (bx fun h=>fe lo 0 (bx fun l=>l≤h∧h≤s.length∧K (sv ((s.take h).drop l))))):=j9 rfl rfl
@[go_sem] theorem LZ (s:St) (bs bl:Bool) (sz id g sz' off len:Nat) (lo hi:Option AV) (k:Box K):nW s bs bl sz (.one (.osl id g sz' off len)) lo hi k=(bl=true∧s.gen id=g∧(s.obj id).isSome=true∧fe hi len (bx fun h=>fe lo 0 (bx fun l=>l≤h∧h≤len∧sz'=sz∧K (.one (.osl id g sz (off+l*sz) (h-l)))))):=j9 rfl rfl
@[go_sem] theorem PO (sz n:Nat) {K:List C→Prop} (k:Box K):xe sz n [] k=K []:=j9 rfl rfl
@[go_sem] theorem Ov (sz n i:Nat) (x:AV) (r:List (Nat×AV)) {K:List C→Prop} (k:Box K):xe sz n ((i,x)::r) k=(i=n∧aM (cellsOf x) (bx fun cs=>cs.length=sz∧xe sz (n+1) r (bx fun rest=>K (cs++rest)))):=j9 rfl rfl
@[go_sem] theorem DU (e sz i d n:Nat) (s:St) (ps:List (Nat×AV)) {K:St→Prop} (k:Box K):iS e sz i d n s ps k=(ps.length=n∧n*sz≤16777216∧xe sz 0 ps (bx fun cs=>K ((s.newC (e+1) i cs).put (some d) (.one (.osl i (nxC (e+1) (s.gen i)) sz 0 n))))):=j9 rfl rfl
@[go_sem] theorem DV (fs:Array Field) (f:Nat):fY (.struct fs) f=fs[f]?:=j9 rfl rfl
@[go_sem] theorem DW (t f:Nat) (s:St) (id g off:Nat) (k:Box K):gq T t f s (.one (.ptr id g off)) k=(s.gen id=g∧(s.obj id).isSome=true∧aM (fY (T t).desc f) (bx fun fl=>(okD (T fl.type).desc=true∧(T fl.type).size≠0)∧K (.one (.ptr id g (off+fl.offset))))):=j9 rfl rfl
@[go_sem] theorem DO (t f:Nat) (s:St) (cs:List D) (k:Box K):gq T t f s (.one (.d (.iptr cs))) k=aM (fY (T t).desc f) (bx fun fl=>(okD (T fl.type).desc=true∧(T fl.type).size≠0)∧K (.one (.d (.iptr (cs.drop fl.offset))))):=j9 rfl rfl
@[go_sem] theorem Ma (t f:Nat) (cs:List C) (k:Box K):pZ T t f (.agg cs) k=aM (fY (T t).desc f) (bx fun fl=>okD (T fl.type).desc=true∧sy (T fl.type) cs fl.offset k):=j9 rfl rfl
@[go_sem] theorem Ow (pl:Nat→Option (Nat×Nat)) (cells:List C) {K:List C→Prop} (k:Box K):rk pl cells [] k=K cells:=j9 rfl rfl
@[go_sem] theorem Mb (pl:Nat→Option (Nat×Nat)) (cells:List C) (i:Nat) (x:AV) (r:List (Nat×AV)) {K:List C→Prop} (k:Box K):rk pl cells ((i,x)::r) k=aM (pl i) (bx fun q=>aM (cellsOf x) (bx fun cs=>cs.length=q.2∧q.1+q.2≤cells.length∧rk pl (setAt cells q.1 cs) r k)):=j9 rfl rfl
@[go_sem] theorem Mc (fs:Array Field) (i:Nat):placeOf T (.struct fs) i=(fY (.struct fs) i).bind fun fl=>bif okD (T fl.type).desc then some (fl.offset,(T fl.type).size) else none:=j9 rfl rfl
@[go_sem] theorem Ox (t:Nat) (ps:List (Nat×AV)) (k:Box K):eE T t ps k=(fA T t=true∧rk (placeOf T (T t).desc) ((T t).zero.map .d) ps (bx fun cs=>K (.agg cs))):=j9 rfl rfl
@[go_sem] theorem SA (t i d:Nat) (s:St) (x:AV) {K:St→Prop} (k:Box K):HM t i d s x k=aM (cellsOf x) (bx fun cs=>K ((s.newC (t+1) i cs).put (some d) (.one (.ptr i (nxC (t+1) (s.gen i)) 0)))):=j9 rfl rfl
@[go_sem] theorem Oy (t:Nat) (ti:TI) (i d:Nat) (s:St) {K:St→Prop} (k:Box K):vW t ti i d s k=(okD ti.desc=true∧K ((s.newC (t+1) i (ti.zero.map .d)).put (some d) (.one (.ptr i (nxC (t+1) (s.gen i)) 0)))):=j9 rfl rfl
@[go_sem] theorem HA (s:St) (id g off:Nat) (k:Box K):iF s (.one (.ptr id g off)) k=(s.gen id=g∧(s.obj id).isSome=true∧K (.one (.ptr id g off))):=j9 rfl rfl
@[go_sem] theorem DX (s:St) (cs:List D) (k:Box K):iF s (.one (.d (.iptr cs))) k=K (.one (.d (.iptr cs))):=j9 rfl rfl
@[go_sem] theorem Ij (ts:List AV) (i:Nat) (k:Box K):mm (.tup ts) i k=aM (ts[i]?) k:=j9 rfl rfl
@[go_sem] theorem SB (k1 k2:IntKind) (a b:Int) (k:Box K):mxA true (.one (.d (.int k1 a))) (.one (.d (.int k2 b))) k=K (iv k1 (max a b)):=j9 rfl rfl
@[go_sem] theorem HB (e:Nat) (ti:TI) (i d:Nat) (s:St) (k1 k2:IntKind) (n m:Int) {K:St→Prop} (k:Box K):iG e ti i d s (.one (.d (.int k1 n))) (.one (.d (.int k2 m))) k=(0≤n∧n≤m∧m≤4611686018427387904∧m*ti.bytes≤281474976710656∧
   K ((s.newC (e+1) i (List.replicate m.toNat (ti.zero.map C.d)).flatten).put (some d) (.one (.osl i (nxC (e+1) (s.gen i)) ti.size 0 n.toNat)))):=j9 rfl rfl
@[go_sem] theorem Oz (k k':IntKind) (n:Int):fM (.int k) (.int k' n)=decide (k'=k):=j9 rfl rfl
@[go_sem] theorem OA (s:List UInt8):fM .string (.str s)=true:=j9 rfl rfl
@[go_sem] theorem KQ:jo (.int .i64)=3:=j9 rfl rfl
@[go_sem] theorem KR:jo .string=8:=j9 rfl rfl
@[go_sem] theorem OB:cP 3=.int .i64:=j9 rfl rfl
@[go_sem] theorem OC:cP 8=.string:=j9 rfl rfl
@[go_sem] theorem SC (n:Nat):uR true n=200+n:=j9 rfl rfl
@[go_sem] theorem SD (n:Nat):uR false n=n:=j9 rfl rfl
@[go_sem] theorem PP (d:TypeDesc) (a b:Nat) (z:List D) {K:List D→Prop} (k:Box K):xg ⟨d,a,b,z⟩ k=((okD d=true∧2≤z.length)∧K z):=j9 rfl rfl
@[go_sem] theorem PQ (z:List D) (c:Option C):kY true z c=.tup [.agg ((uw z c).map .d),bv c.isSome]:=j9 rfl rfl
@[go_sem] theorem PS (z:List D) (c:Option C):kY false z c=.agg ((uw z c).map .d):=j9 rfl rfl
@[go_sem] theorem OD (z:List D):uw z none=z:=j9 rfl rfl
@[go_sem] theorem OE (z ds:List D):uw z (some (.d (.iptr ds)))=ds:=j9 rfl rfl
@[go_sem] theorem OF:datas []=some []:=j9 rfl rfl
@[go_sem] theorem Md (x:D) (r:List C):datas (.d x::r)=(datas r).map (x :: ·):=j9 rfl rfl
@[go_sem] theorem KS (t i d:Nat) (s:St) {K:St→Prop} (k:Box K):kB T t i d s k=(match (T t).desc with
 |.map kt et=>cP (jo (T kt).desc)=(T kt).desc∧K ((s.newC 0 i []).put (some d) (.one (.mp i (nxC 0 (s.gen i)) (uR (cU (T et).desc) (jo (T kt).desc)))))
 | _=>False):=j9 rfl rfl
@[go_sem] theorem PT (d:TypeDesc) (a b:Nat) (z:D) {K:D→Prop} (k:Box K):xf ⟨d,a,b,[z]⟩ k=((okD d=true∧cU d=false)∧K z):=j9 rfl rfl
@[go_sem] theorem Me (t:Nat) (s:St) (x:AV) (k:D) (ok:Bool) (b:Box K):kZ T t s x (.one (.d k)) ok b=(match (T t).desc with
 |.map kt et=>(okD (T kt).desc=true∧fM (T kt).desc k=true)∧
   match cU (T et).desc with
   | false=>xf (T et) (bx fun z=>
     match x with
     |.one (.mp id g kd)=>s.gen id=g∧cP kd=(T kt).desc∧aM (s.obj id) (bx fun cells=>K (rm ok z (mget cells k)))
     |.one (.d .nilm)=>K (rm ok z none)
     | _=>False)
   | true=>xg (T et) (bx fun z=>
     match x with
     |.one (.mp id g kd)=>s.gen id=g∧(200≤kd∧cP (kd-200)=(T kt).desc)∧aM (s.obj id) (bx fun cells=>K (kY ok z (mget cells k)))
     |.one (.d .nilm)=>K (kY ok z none)
     | _=>False)
 | _=>False):=by unfold kZ;cases (T t).desc <;> rfl
@[go_sem] theorem DY (t:Nat) (s:St) (id g kd:Nat) (k:D) (cs:List C) {K:St→Prop} (b:Box K):dG T t s (.one (.mp id g kd)) (.one (.d k)) (.agg cs) b=(match (T t).desc with
 |.map kt _=>(okD (T kt).desc=true∧fM (T kt).desc k=true)∧s.gen id=g∧(200≤kd∧cP (kd-200)=(T kt).desc)∧aM (datas cs) (bx fun ds=>aM (s.obj id) (bx fun cells=>K { s with obj:=upd s.obj id (some (mset cells k (.d (.iptr ds))))}))
 | _=>False):=by unfold dG;cases (T t).desc <;> rfl
@[go_sem] theorem HC (t:Nat) (s:St) (id g kd:Nat) (k:D) (c:C) {K:St→Prop} (b:Box K):dG T t s (.one (.mp id g kd)) (.one (.d k)) (.one c) b=(match (T t).desc with
 |.map kt _=>(okD (T kt).desc=true∧fM (T kt).desc k=true)∧s.gen id=g∧cP kd=(T kt).desc∧aM (s.obj id) (bx fun cells=>K { s with obj:=upd s.obj id (some (mset cells k c))})
 | _=>False):=by unfold dG;cases (T t).desc <;> rfl
@[go_sem] theorem PU (id g off:Nat):Cn (.one (.ptr id g off))=some (.ptr id g off):=j9 rfl rfl
@[go_sem] theorem OG:kC []=some []:=j9 rfl rfl
@[go_sem] theorem Mf (x:AV) (xs:List AV):kC (x::xs)=(Cn x).bind fun p=>(kC xs).bind fun ps=>some (p::ps):=j9 rfl rfl
@[go_sem] theorem HD (f:FuncId) (caps:List AV) (k:Box K):iH f [] caps k=(f<1000000∧aM (kC caps) (bx fun l=>K (.one (.clo f l)))):=j9 rfl rfl
@[go_sem] theorem DZ (f:FuncId) (x:AV) (r:List AV) (k:Box K):iH f (x::r) [] k=aM (kC (x::r)) (bx fun l=>K (.one (.clo (f+1000000) l))):=propext ⟨fun h=>h.2,fun h=>⟨rfl,h⟩⟩
@[go_sem] theorem PV{K:St→Prop}{k:Box K}:opA S T ⟨dst,.move x,ty,ps,af,gd⟩ s k=K (s.put dst (s.ev x)):=j9 rfl rfl
@[go_sem] theorem Mg{K:St→Prop}{k:Box K}:opA S T ⟨dst,.assign x,ty,ps,af,gd⟩ s k=K (s.put dst (s.ev x)):=j9 rfl rfl
@[go_sem] theorem PW{K:St→Prop}{k:Box K}{c a b:Operand}:opA S T ⟨dst,.pick c a b,ty,ps,af,gd⟩ s k=nV (s.ev c) (bx fun t=>K (s.put dst (if t then s.ev a else s.ev b))):=j9 rfl rfl
@[go_sem] theorem PX{K:St→Prop}{k:Box K}{a:Operand}:opA S T ⟨dst,.load t a,ty,ps,af,gd⟩ s k=ri (T t) s (s.ev a) (bx fun v=>K (s.put dst v)):=j9 rfl rfl
@[go_sem] theorem OH{K:St→Prop}{k:Box K}{a x:Operand}:opA S T ⟨dst,.store t a x,ty,ps,af,gd⟩ s k=pY (T t) s (s.ev a) (s.ev x) (bx fun s'=>K (s'.put dst uv)):=j9 rfl rfl
@[go_sem] theorem HE{K:St→Prop}{k:Box K}{x:Nat}:opA S T ⟨dst,.indexAddr t (.tmp x) ix,ty,ps,af,gd⟩ s k=(bif ml (T t).desc then kz T (T t).desc s (s.f x) (s.ev ix) (bx fun v=>K (s.put dst v)) else cM T t=true∧gp s (aO T t).size (s.f x) (s.ev ix) (bx fun v=>K (s.put dst v))):=j9 rfl rfl
@[go_sem] theorem PY{K:St→Prop}{k:Box K}{t g:Nat}:opA S T ⟨dst,.indexAddr t (.global g) ix,ty,ps,af,gd⟩ s k=bj S ⟨dst,.indexAddr t (.global g) ix,ty,ps,af,gd⟩ s k:=j9 rfl rfl
@[go_sem] theorem OI{K:St→Prop}{k:Box K}{x ix:Operand}:opA S T ⟨dst,.index t x ix,ty,ps,af,gd⟩ s k=(isStr (T t).desc=true∧sA (s.ev x) (s.ev ix) (bx fun v=>K (s.put dst v))):=j9 rfl rfl
@[go_sem] theorem OJ{K:St→Prop}{k:Box K}{o:BinOp}{t u:TypeId}{x y:Operand}:opA S T ⟨dst,.binOp o t x y u,ty,ps,af,gd⟩ s k=zt T (T t).desc o (s.ev x) (s.ev y) (bx fun v=>K (s.put dst v)):=j9 rfl rfl
@[go_sem] theorem PZ{K:St→Prop}{k:Box K}{o:UnOp}:opA S T ⟨dst,.unOp o t x,ty,ps,af,gd⟩ s k=unA o (s.ev x) (bx fun v=>K (s.put dst v)):=j9 rfl rfl
@[go_sem] theorem KT{K:St→Prop}{k:Box K}{t u:TypeId}:opA S T ⟨dst,.convert t u x,ty,ps,af,gd⟩ s k=(bif isSlice (T u).desc then lf T t u S.base dst s (s.ev x) k else rj s (aO T t).desc (T t).desc (T u).desc (s.ev x) (bx fun v=>K (s.put dst v))):=j9 rfl rfl
@[go_sem] theorem KU (T:Nat→TI) (src d base dd:Nat) (s:St) (bs:List UInt8) {K:St→Prop} (k:Box K):lf T src d base (some dd) s (.one (.d (.str bs))) k=(isStr (T src).desc=true∧vV (aO T d).desc=true∧K ((s.newC (aH T d+1) (base+dd) (bs.map fun b=>.d (uP b))).put (some dd) (.one (.osl (base+dd) (nxC (aH T d+1) (s.gen (base+dd))) 1 0 bs.length)))):=j9 rfl rfl
@[go_sem] theorem OK{K:St→Prop}{k:Box K}{lo hi:Option Operand}:opA S T ⟨dst,.slice t x lo hi none,ty,ps,af,gd⟩ s k=(bif ml (T t).desc then kA T (T t).desc s (s.ev x) (lo.map s.ev) (hi.map s.ev) (bx fun v=>K (s.put dst v)) else nW s (isStr (T t).desc) (cM T t) (aO T t).size (s.ev x) (lo.map s.ev) (hi.map s.ev) (bx fun v=>K (s.put dst v))):=j9 rfl rfl
@[go_sem] theorem Ea{K:St→Prop}{k:Box K}{t n:Nat}:opA S T ⟨(some d),.buildSlice t n p,ty,ps,af,gd⟩ s k=(cM T t=true∧iS (aH T t) (aO T t).size (S.base+d) d n s (p.toList.map fun p=>(p.1,s.ev p.2)) k):=j9 rfl rfl
@[go_sem] theorem HF{K:St→Prop}{k:Box K}{l c:Operand}:opA S T ⟨(some d),.makeSlice t l c,ty,ps,af,gd⟩ s k=(cM T t=true∧iG (aH T t) (aO T t) (S.base+d) d s (s.ev l) (s.ev c) k):=j9 rfl rfl
@[go_sem] theorem SE{K:St→Prop}{k:Box K}:opA S T ⟨dst,.call ⟨.builtin .len,a,ts⟩,ty,ps,af,gd⟩ s k=((a.size=1∧ts.size=1)∧xd s (isStr (T (ts.getD 0 0)).desc) (cM T (ts.getD 0 0)) (s.ev (a.getD 0 (.const .nilFunc))) (bx fun v=>K (s.put dst v))):=j9 rfl rfl
@[go_sem] theorem Mh{K:St→Prop}{k:Box K}:opA S T ⟨(some d),.call ⟨.builtin .append,a,ts⟩,ty,ps,af,gd⟩ s k=((a.size=2∧ts.size=2)∧cM T (ts.getD 0 0)=true∧kX (aH T (ts.getD 0 0)) (aO T (ts.getD 0 0)) (isStr (T (ts.getD 1 0)).desc) (cM T (ts.getD 1 0)) (S.base+d) d s (s.ev (a.getD 0 (.const .nilFunc))) (s.ev (a.getD 1 (.const .nilFunc))) k):=j9 rfl rfl
@[go_sem] theorem HG{K:St→Prop}{k:Box K}{t f:Nat}:opA S T ⟨dst,.fieldAddr t x f,ty,ps,af,gd⟩ s k=gq T t f s (s.ev x) (bx fun v=>K (s.put dst v)):=j9 rfl rfl
@[go_sem] theorem OL{K:St→Prop}{k:Box K}{t f:Nat}:opA S T ⟨dst,.field t x f,ty,ps,af,gd⟩ s k=pZ T t f (s.ev x) (bx fun v=>K (s.put dst v)):=j9 rfl rfl
@[go_sem] theorem OM{K:St→Prop}{k:Box K}{t:Nat}:opA S T ⟨dst,.build t p,ty,ps,af,gd⟩ s k=eE T t (p.toList.map fun p=>(p.1,s.ev p.2)) (bx fun v=>K (s.put dst v)):=j9 rfl rfl
@[go_sem] theorem Ik{K:St→Prop}{k:Box K}:opA S T ⟨dst,.nilCheck x,ty,ps,af,gd⟩ s k=iF s (s.ev x) (bx fun v=>K (s.put dst v)):=j9 rfl rfl
@[go_sem] theorem KV{K:St→Prop}{k:Box K}{i:Nat}:opA S T ⟨dst,.extract x i,ty,ps,af,gd⟩ s k=mm (s.ev x) i (bx fun v=>K (s.put dst v)):=j9 rfl rfl
@[go_sem] theorem SF{K:St→Prop}{k:Box K}{t:Nat}:opA S T ⟨(some d),.box t x,ty,ps,af,gd⟩ s k=HM t (S.base+d) d s (s.ev x) k:=j9 rfl rfl
@[go_sem] theorem ON{K:St→Prop}{k:Box K}{t:Nat}:opA S T ⟨(some d),.alloc t,ty,ps,af,gd⟩ s k=vW t (T t) (S.base+d) d s k:=j9 rfl rfl
@[go_sem] theorem KW{K:St→Prop}{k:Box K}:opA S T ⟨(some d),.makeMap t none,ty,ps,af,gd⟩ s k=kB T t (S.base+d) d s k:=j9 rfl rfl
@[go_sem] theorem Mj{K:St→Prop}{k:Box K}{x ix:Operand}{ok:Bool}:opA S T ⟨dst,.lookup t x ix ok,ty,ps,af,gd⟩ s k=kZ T t s (s.ev x) (s.ev ix) ok (bx fun v=>K (s.put dst v)):=j9 rfl rfl
@[go_sem] theorem HH{K:St→Prop}{k:Box K}{m ix x:Operand}:opA S T ⟨dst,.mapUpdate t m ix x,ty,ps,af,gd⟩ s k=dG T t s (s.ev m) (s.ev ix) (s.ev x) (bx fun s'=>K (s'.put dst uv)):=j9 rfl rfl
@[go_sem] theorem Il{K:St→Prop}{k:Box K}{f:FuncId}{first caps:Array Operand}:opA S T ⟨dst,.makeFunc (.func f) first caps,ty,ps,af,gd⟩ s k=iH f (first.toList.map s.ev) (caps.toList.map s.ev) (bx fun v=>K (s.put dst v)):=j9 rfl rfl
@[go_sem] theorem SG{K:St→Prop}{k:Box K}:opA S T ⟨dst,.call ⟨.builtin .max,a,ts⟩,ty,ps,af,gd⟩ s k=(a.size=2∧mxA true (s.ev (a.getD 0 (.const .nilFunc))) (s.ev (a.getD 1 (.const .nilFunc))) (bx fun v=>K (s.put dst v))):=j9 rfl rfl
@[go_sem] theorem Qa{K:St→Prop}{k:Box K}{f:Operand}:opA S T ⟨dst,.call ⟨.value f,a,ts⟩,ty,ps,af,gd⟩ s k=bj S ⟨dst,.call ⟨.value f,a,ts⟩,ty,ps,af,gd⟩ s k:=j9 rfl rfl
@[go_sem] theorem Tv (s:St) (t:Nat):s.ev (.tmp t)=s.f t:=j9 rfl rfl
@[go_sem] theorem Qb (s:St) (v:Value):s.ev (.const v)=vS v:=j9 rfl rfl
@[go_sem] theorem SH (s:St) (f:Nat):s.ev (.func f)=.one (.d (.fn f)):=j9 rfl rfl
@[go_sem] theorem OO (b:Bool):vS (.bool b)=bv b:=j9 rfl rfl
@[go_sem] theorem Qc (k:IntKind) (n:Int):vS (.int k n)=iv k n:=j9 rfl rfl
@[go_sem] theorem KX (s:ByteArray):vS (.string s)=sv s.data.toList:=j9 rfl rfl
@[go_sem] theorem Qd :vS (.slice none 0 0)=.one (.d .nsl):=j9 rfl rfl
@[go_sem] theorem OP :vS (.pointer none)=.one (.d .nilp):=j9 rfl rfl
@[go_sem] theorem Im:jD b q .normal s=next s:=j9 rfl rfl
@[go_sem] theorem OQ:jD b q .ret s=Q .ret s:=j9 rfl rfl
@[go_sem] theorem Ml:jD b q (.exit n) s=Q (.exit n) s:=j9 rfl rfl
@[go_sem] theorem DP:ig n q .normal s=Q .normal s:=j9 rfl rfl
@[go_sem] theorem Io:ig n q .ret s=Q .ret s:=j9 rfl rfl
@[go_sem] theorem HI {n m:Nat}:ig n q (.exit m) s=(if m=n then Q .normal s else Q (.exit m) s):=j9 rfl rfl
@[go_sem] theorem KY:ph q .ret s=Q .ret s:=j9 rfl rfl
@[go_sem] theorem SI (c:Nat) (s:St) (d:Nat) (cs:List C):s.newC c d cs = { s with gen:=upd s.gen d (nxC c (s.gen d)),obj:=upd s.obj d (some cs)}:=j9 rfl rfl
section steps
variable {f:Nat→AV}{g:Nat→Nat}{ob:Nat→Option (List C)}{Q:Exit→St→Prop}{q:Box Q}{K:St→Prop}{k:Box K}{ops:Array Oper}{rest:List Oper}
@[go_sem] theorem Qe:wpC S T .skip q ⟨f,g,ob⟩=Q .normal ⟨f,g,ob⟩:=j9 rfl rfl
@[go_sem] theorem OR:wpC S T (.label n) q ⟨f,g,ob⟩=Q .normal ⟨f,g,ob⟩:=j9 rfl rfl
@[go_sem] theorem OS:wpC S T (.scope c) q ⟨f,g,ob⟩=wpC S T c (bx (ph q)) ⟨f,g,ob⟩:=j9 rfl rfl
@[go_sem] theorem Qf:wpC S T (.region n l.toArray true) q ⟨f,g,ob⟩=jE S T n l.toArray ⟨f,g,ob⟩ q:=j9 rfl rfl
@[go_sem] theorem Mm:wpC S T (.region n l.toArray false) q ⟨f,g,ob⟩=wpO S T l.toArray l ⟨f,g,ob⟩ (bx fun s'=>Q .normal s'):=by simp[wpC]
@[go_sem] theorem SJ {x y:Code}:wpC S T (.seq x y) q ⟨f,g,ob⟩=wpC S T x (bx (jD (bx fun s'=>wpC S T y q s') q)) ⟨f,g,ob⟩:=j9 rfl rfl
@[go_sem] theorem Qg {c:Operand}{x y:Code}:wpC S T (.cond c x y) q ⟨f,g,ob⟩=nV (St.ev ⟨f,g,ob⟩ c) (bx fun b=>if b then wpC S T x q ⟨f,g,ob⟩ else wpC S T y q ⟨f,g,ob⟩):=j9 rfl rfl
@[go_sem] theorem OT:wpC S T (.block n c) q ⟨f,g,ob⟩=wpC S T c (bx (ig n q)) ⟨f,g,ob⟩:=j9 rfl rfl
@[go_sem] theorem Qh:wpC S T (.loop c) q ⟨f,g,ob⟩=pg S (bx fun Q s=>wpC S T c (bx Q) s) q ⟨f,g,ob⟩:=j9 rfl rfl
@[go_sem] theorem Qi:wpC S T (.exit n) q ⟨f,g,ob⟩=Q (.exit n) ⟨f,g,ob⟩:=j9 rfl rfl
@[go_sem] theorem SK:wpC S T .ret q ⟨f,g,ob⟩=Q .ret ⟨f,g,ob⟩:=j9 rfl rfl
@[go_sem] theorem SL:wpO S T ops [] ⟨f,g,ob⟩ k=K ⟨f,g,ob⟩:=j9 rfl rfl
@[go_sem] theorem Qj{op:Op} :
  wpO S T ops (⟨dst,op,ty,ps,af,none⟩::rest) ⟨f,g,ob⟩ k=opA S T ⟨dst,op,ty,ps,af,none⟩ ⟨f,g,ob⟩ (bx fun s'=>wpO S T ops rest s' k):=j9 rfl rfl
@[go_sem] theorem Qk{op:Op}{j:Nat}{want:Bool} :
  wpO S T ops (⟨dst,op,ty,ps,af,some (j,want)⟩::rest) ⟨f,g,ob⟩ k =
   aM ((ops[j]?).bind (·.dst)) (bx fun d=>
    kV (f d) (bx fun b=>if b=want then opA S T ⟨dst,op,ty,ps,af,some (j,want)⟩ ⟨upd f d (bv b),g,ob⟩ (bx fun s'=>wpO S T ops rest s' k)
     else wpO S T ops rest (St.put ⟨upd f d (bv b),g,ob⟩ dst uv) k) (bx (wpO S T ops rest (St.put ⟨f,g,ob⟩ dst uv) k))):=j9 rfl rfl
end steps
@[go_sem] theorem OU {α:Type} (f:Nat→α) (i j:Nat) (v:α):upd f i v j=if j=i then v else f j:=j9 rfl rfl
@[go_sem] theorem St.put_some (s:St) (d:Nat) (v:AV):s.put (some d) v = { s with f:=upd s.f d v }:=j9 rfl rfl
@[go_sem] theorem St.put_none (s:St) (v:AV):s.put none v=s:=j9 rfl rfl
attribute [go_sem] Nat.reduceEqDiff Nat.reduceAdd Nat.reduceMul Nat.reduceSub Nat.reduceLT Nat.reduceLeDiff Int.reduceLT Int.reduceLE Int.reduceEq Int.reduceNe Int.reduceAdd Int.reduceNeg Int.reduceToNat
attribute [go_sem] if_true if_false ite_true ite_false and_true true_and List.length_map List.length_cons List.length_nil List.size_toArray Option.bind_some Option.map_some Option.map_none Option.bind_none cond_true cond_false List.append_nil List.cons_append List.set_cons_zero List.set_cons_succ List.set_nil List.drop_succ_cons List.take_succ_cons List.take_zero
attribute [go_sem] Array.getD_eq_getD_getElem? List.getElem?_toArray List.getElem?_cons_zero List.getElem?_cons_succ List.getElem?_nil Option.getD_some Option.getD_none List.getElem?_map
attribute [go_sem] List.drop_zero List.take_length Nat.mul_one Nat.zero_add List.map_cons List.map_nil List.nil_append reduceCtorEq not_true_eq_false not_false_eq_true implies_true Bool.not_true Bool.not_false Bool.true_eq_false Bool.false_eq_true
attribute [go_sem] Option.some.injEq Option.isSome_some decide_true decide_false ne_eq Int.toNat_natCast
end equations
end
end
end Go.Am

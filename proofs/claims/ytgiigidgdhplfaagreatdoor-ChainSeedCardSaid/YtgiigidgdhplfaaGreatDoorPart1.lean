/- A part of the proof; no conditions. -/
import Derived.KernelRfl
import Derived.Shelf.Strconv.Itoa3
import Derived.Test.YtgiigidgdhplfaaGreatDoorProg
import Derived.StillTail
import Derived.Deep.Quiet
set_option linter.unusedSimpArgs false
set_option linter.unusedVariables false
namespace Go
section
theorem a6 {P:Prop} (h:P:=by omega):P:=h
theorem a7 {P:Prop} (h:P:=by simp):P:=h
theorem a8 {P:Prop} (h:P:=by decide):P:=h
theorem b9 {P:Prop} (h:P:=by decide +kernel):P:=h
theorem c8 {P:Prop} (h:P:=by kernel_rfl):P:=h
theorem c9 {P:Prop} (h:P:=by rfl):P:=h
theorem j0 {P:Prop} (h:P:=by assumption):P:=h
abbrev j4:=@List.length_append
abbrev j5:=@List.length_map
abbrev j6:=@List.length_cons
abbrev j7:=@List.length_nil
abbrev j8:=@Eq.trans
abbrev l0:=@Nat.le_refl
abbrev l4:=@List.getElem?_eq_some_iff
abbrev l5:=@List.take_of_length_le
abbrev l6:=@List.mem_of_getElem?
abbrev l7:=@List.map_cons
abbrev l8:=@List.append_nil
abbrev l9:=@List.getElem?_cons_succ
abbrev r0:=@List.append_assoc
abbrev s5:=@eq_true
abbrev s6:=@Option.some.injEq
abbrev s7:=@List.getElem?_cons_zero
abbrev s9:=@Bool.and_eq_true
abbrev u7:=@List.getElem?_toArray
abbrev v7:=@Array.getD_eq_getD_getElem?
abbrev v8:=@List.map_nil
abbrev w7:=@Bool.true_and
abbrev w8:=@List.getElem?_map
abbrev w9:=@List.getElem?_eq_getElem
abbrev x6:=@True.intro
abbrev x7:=@List.all_eq_true
abbrev x8:=@Option.map_some
abbrev x9:=@List.mem_cons
abbrev y1:=@List.nil_append
abbrev y2:=@Array.getElem?_eq_getElem
abbrev y7:=@Option.getD_some
abbrev y8:=@List.eq_nil_of_length_eq_zero
abbrev y9:=@decide_eq_false
abbrev z6:=@Bool.false_and
abbrev z7:=@Ne.symm
abbrev z8:=@List.cons_append
abbrev A0:=@List.drop_eq_getElem_cons
abbrev A1:=@List.not_mem_nil
abbrev A2:=@List.take_add_one
abbrev A3:=@List.map_append
abbrev A4:=@if_false
abbrev A5:=@if_true
abbrev A6:=@Int.toNat_natCast
abbrev A7:=@Array.getElem?_eq_some_iff
abbrev A8:=@List.length_take
abbrev A9:=@Nat.le_trans
abbrev B3:=@Option.isSome_some
abbrev B4:=@List.flatMap_cons
abbrev B8:=@Bool.false_eq_true
abbrev B9:=@List.getElem?_eq_none
abbrev C0:=@Nat.add_assoc
abbrev C1:=@List.drop_zero
abbrev C2:=@Bool.and_false
abbrev C3:=@Array.getElem?_replicate
abbrev C4:=@decide_eq_true_eq
abbrev C5:=@Nat.zero_add
abbrev C6:=@List.length_set
abbrev C7:=@List.mem_singleton
abbrev C8:=@Option.isSome_none
abbrev C9:=@List.getElem?_of_mem
abbrev D0:=@List.getD_eq_getElem?_getD
abbrev D1:=@List.mem_append
abbrev D2:=@List.getElem?_set
abbrev D3:=@Bool.and_assoc
abbrev D4:=@List.replicate_succ
abbrev D5:=@Option.some.inj
abbrev D6:=@List.mem_range
abbrev D7:=@List.length_drop
abbrev D8:=@List.drop_of_length_le
abbrev D9:=@Array.getElem?_append_left
abbrev E0:=@decide_eq_true
abbrev E3:=@List.drop_length
abbrev E4:=@List.all_cons
abbrev E5:=@Nat.lt_of_lt_of_le
abbrev E6:=@Nat.add_mul
abbrev E7:=@or_false
abbrev E8:=@List.getElem?_append_right
abbrev E9:=@Nat.lt_of_le_of_lt
abbrev F0:=@Array.getElem?_toList
abbrev F8:=@List.take_succ_cons
abbrev F9:=@List.sum_cons
abbrev G0:=@Bool.or_eq_true
abbrev G1:=@List.flatten_cons
abbrev G2:=@List.set_cons_zero
abbrev G3:=@Array.getElem_mem_toList
abbrev G4:=@List.getElem?_drop
abbrev G5:=@Array.getElem?_append_right
abbrev G6:=@Int.le_refl
abbrev G7:=@Option.map_none
abbrev G8:=@List.getElem?_take
abbrev G9:=@List.take_length
abbrev H0:=@List.take_append_drop
abbrev H2:=@List.length_replicate
abbrev H3:=@Bool.not_eq_true'
abbrev H4:=@Array.ext'
abbrev H5:=@List.getElem?_append_left
abbrev H6:=@List.singleton_append
abbrev H7:=@List.eq_of_mem_replicate
abbrev H8:=@List.mem_map
abbrev H9:=@List.mem_mapIdx
abbrev I0:=@List.mem_cons_self
abbrev I1:=@Option.toList_some
abbrev I2:=@Option.bind_some
abbrev I3:=@List.take_zero
abbrev I4:=@Bool.not_false
abbrev I5:=@Option.map_eq_some_iff
abbrev I6:=@Nat.add_zero
abbrev I7:=@Array.getElem?_eq_none
abbrev I8:=@Nat.le_of_ble_eq_true
abbrev I9:=@List.set_append_right
abbrev J0:=@List.length_singleton
abbrev J1:=@BitVec.toNat_ofInt
abbrev J2:=@Nat.and_two_pow_sub_one_eq_mod
abbrev J3:=@Prod.mk.injEq
abbrev J4:=@Option.isSome_iff_exists
abbrev J5:=@List.getElem?_append
abbrev J6:=@List.length_eq_zero_iff
abbrev J7:=@beq_iff_eq
abbrev J8:=@List.flatMap_append
abbrev J9:=@List.takeWhile_cons
abbrev K7:=@getElem!_pos
abbrev K8:=@Nat.mul_one
abbrev K9:=@Nat.zero_le
abbrev L0:=@Bool.and_true
abbrev L1:=@and_true
abbrev L2:=@UInt8.toNat_ofNat'
abbrev L3:=@Int.fdiv_eq_ediv_of_nonneg
abbrev L4:=@List.contains_iff_mem
abbrev L5:=@Array.getElem?_modify
abbrev L6:=@List.sum_append
abbrev L7:=@Nat.div_le_self
abbrev L8:=@decide_false
abbrev L9:=@Nat.sub_self
abbrev M0:=@Nat.mul_le_mul_right
abbrev M1:=@List.mem_of_mem_take
abbrev M3:=@Array.getElem?_setIfInBounds_ne
abbrev M4:=@Array.length_toList
abbrev M5:=@List.replicate_zero
abbrev M6:=@Nat.mod_eq_of_lt
abbrev M7:=@List.filter_eq_nil_iff
abbrev M8:=@Nat.div_div_eq_div_mul
abbrev M9:=@Array.getElem?_setIfInBounds
abbrev N0:=@List.dropLast_concat_getLast
abbrev N1:=@not_false_eq_true
abbrev N2:=@of_decide_eq_true
abbrev N3:=@List.ext_getElem?
abbrev N4:=@List.reverse_cons
abbrev N5:=@Array.getElem?_setIfInBounds_self_of_lt
abbrev N6:=@List.mem_of_mem_drop
abbrev N7:=@List.isPrefixOf_iff_prefix
abbrev N8:=@Array.size_replicate
abbrev N9:=@List.getElem?_mapIdx
abbrev O0:=@List.getElem_mem
abbrev O2:=@Nat.pow_succ
abbrev O6:=@List.mapIdx_cons
abbrev O7:=@List.mem_or_eq_of_mem_set
abbrev O8:=@List.cons.injEq
abbrev O9:=@List.all_append
abbrev P0:=@List.foldl_cons
abbrev P1:=@UInt8.toNat_inj
abbrev P2:=@List.set_cons_succ
abbrev P3:=@Array.all_eq_true'
abbrev P4:=@Nat.mod_lt
abbrev P5:=@List.map_replicate
abbrev P6:=@List.getElem?_replicate
abbrev P7:=@not_true_eq_false
abbrev P8:=@List.mapM_cons
abbrev P9:=@Nat.lt_or_ge
abbrev Q0:=@List.drop_drop
abbrev Q1:=@List.takeWhile_sublist
abbrev Q2:=@Nat.le_add_right
abbrev Q3:=@List.any_eq_true
abbrev Q4:=@Array.eq_empty_of_size_eq_zero
abbrev Q5:=@List.flatMap_nil
abbrev Q6:=@Bool.not_true
abbrev Q7:=@Array.mem_toList_iff
abbrev Q8:=@List.mem_cons_of_mem
abbrev Q9:=@List.getElem?_set_ne
abbrev R1:=@List.range_eq_range'
abbrev R2:=@Nat.le_antisymm
abbrev R3:=@Int.natCast_mul
abbrev R4:=@List.range_succ
abbrev R5:=@List.getD_cons_zero
abbrev R6:=@Array.getElem?_push
abbrev R7:=@List.length_pos_iff
abbrev R8:=@List.reverse_append
abbrev R9:=@List.sum_nil
abbrev S7:=@List.map_set
abbrev S8:=@Nat.pow_zero
abbrev S9:=@List.count_pos_iff
abbrev T0:=@Classical.byContradiction
abbrev T1:=@Option.isNone_iff_eq_none
abbrev T2:=@List.mem_of_find?_eq_some
abbrev T3:=@List.getElem?_eq_none_iff
abbrev T4:=@Array.getElem_mem
abbrev T5:=@List.mapM_toArray
abbrev T6:=@Bool.false_or
abbrev T7:=@Array.size_setIfInBounds
abbrev T8:=@true_and
abbrev T9:=@Option.getD_none
abbrev UO:=@List.countP_cons
abbrev UP:=@BitVec.toNat_and
abbrev UQ:=@Nat.add_sub_cancel_left
abbrev UR:=@List.map_map
abbrev US:=@Nat.le_of_lt
abbrev UT:=@List.mem_filter
abbrev UU:=@List.nodup_cons
abbrev UW:=@Array.mem_of_getElem?
abbrev UX:=@List.countP_replicate
abbrev UY:=@decide_true
abbrev UZ:=@List.nodup_nil
abbrev U0:=@Nat.div_one
abbrev U1:=@cond_false
abbrev U2:=@Nat.le_of_eq
abbrev U3:=@Nat.mul_comm
abbrev U4:=@cond_true
theorem U5 {P:Prop}(h:P:=by
 simp only[go_sem]
 refine⟨_,ab.refl _,?_⟩
 simp only[go_sem]
 exact aT.nil (fun i hi=>⟨nt ((fr i hi).1),nt ((fr i hi).2)⟩) (rs':=[bv false]) ⟨_,_,rfl,.one (.d _),rfl⟩ ⟨rfl,rfl,rfl⟩):P:=h
theorem U6 {P:Prop}(h:P:=by
 cases yt
 ·simp only[z6,C2] at hza
  subst hza
  exact U5
 simp only[go_sem,q0,q4,o4]
 refine bI aa rfl hel (by simp only[go_sem];rfl) (B+65) a6 (fun i hi=>nt (hfr i a6)) ((E.mono hB fr).mono hB fun i hi=>⟨nu,nu⟩) ?_
 cases ye
 ·simp only[z6,C2] at hza
  subst hza
  exact U5
 simp only[w7] at hza
 simp only[go_sem,q11,hw]
 refine ae (m-1) a6 ⟨k+1,a6,hza,?_⟩
 simp only[go_sem,q0,q4,q9,q10,o4]
 exact⟨fun j hj=>⟨nt ((fr j hj).1),nt ((fr j hj).2)⟩,fun j hj=>nt (hfr j hj)⟩):P:=h
theorem U7 {P:Prop}(h:P:=by
 rintro r g' ob' ⟨f1,f2⟩
 simp only[go_sem]
 exact aV (.inr rfl) (fin (fun i hi=>by (try simp only[upd]);repeat (rw[if_neg (by omega)]);try rfl) (fun i hi=>by (try simp only[upd]);repeat (rw[if_neg (by omega)]);try rfl) f1 f2)):P:=h
theorem U8 {P:Prop}(h:P:=by
 refine bI aa rfl (hes 1) (by simp only[go_sem];rfl) (B+65) a6 (fun i hi=>nt (hfr i a6)) ((E.mono hB fr).mono hB fun i hi=>⟨nu,nu⟩) ?_
 cases hye2:eb fs 1 es
 ·rw[hye2] at hza
  simp only[z6,C2] at hza
  subst hza
  exact U5
 rw[hye2] at hza
 simp only[w7] at hza
 simp only[go_sem,q0,q4,o4]
 refine bI aa rfl hth (by simp only[go_sem];rfl) (B+65) a6 (fun i hi=>nt (hfr i a6)) ((E.mono hB fr).mono hB fun i hi=>⟨nu,nu⟩) ?_
 exact U6):P:=h
theorem U9 {P:Prop}(h:P:=by
 refine dL (f:=217) rfl (by simp only[go_sem]) (by simp only[go_sem];exact fD _) (by simp only[go_sem];rfl) ?_
 rintro _ rfl
 simp only[go_sem]
 exact⟨_,dC rfl,rfl⟩):P:=h
theorem Va {P:Prop}(h:P:=by
 refine this.mono fun e w' hE=>?_
 rcases hE with⟨v,r,g',ob',β',he,hR,hv,h1,h2,h3⟩|⟨ch,g',ob',β',he,hΨ,h1,h2,h3⟩
 ·subst he
  obtain⟨k1,k2⟩:=fM hr hdst hv h1 h2 h3
  exact⟨k1.defers,hn _ β' _ w' ⟨r,g',ob',hR,rfl⟩ k1 (hΦ _ _ _ _ _ _ _ hφ k2)⟩
 ·subst he
  have hk:dU b₀ β s.gen s.obj w β' g' ob' w':=h3.keep
  have ht:Tr b₀ β s w β' ⟨s.f,g',ob'⟩ w':=⟨h3.size,h3.old,hk,h3.os⟩
  exact hx' ch ⟨s.f,g',ob'⟩ β' a w' (hx _ _ _ hΨ) ⟨hr.defers,hr.size,fun i=>ag.keep hk _ (hr.f i),h1,h2,A9 hr.base h3.size⟩ (hΦ _ _ _ _ _ _ _ hφ ht)):P:=h
theorem Vb {P:Prop}(h:P:=by
 rintro n f g' ob' ⟨k,hk,q0,q4,q3,q⟩
 simp only at q0 q4 q3 q
 have hw:=ah (k:=k) a6
 by_cases hlt:k<32
 ·have hlti:(k:Int)<32:=a6
  have hvl:a/2^k<4294967296:=E9 (L7 _ _) ha
  have hv2:a/2^(k+1)=a/2^k/2:=by rw[O2,M8]
  have htk:=uw (a:=a) hlt
  generalize a/2^k=v at q0 hvl hv2 htk
  have hm:(v:Int).tmod 2=((v%2:Nat):Int):=rfl
  have hd:(v:Int).tdiv 2=((v/2:Nat):Int):=rfl
  have hwm:IntKind.i64.wrap ((v%2:Nat):Int)=((v%2:Nat):Int):=by rw[wrap_i64] <;> omega
  have hwm2:IntKind.u32.wrap ((v%2:Nat):Int)=((v%2:Nat):Int):=cW a6
  have hwd:IntKind.u32.wrap ((v/2:Nat):Int)=((v/2:Nat):Int):=cW a6
  rcases q3 with⟨hk0,q3⟩|⟨hk0,q3,qo⟩
  ·simp only[go_sem,q0,q3,q4,hlti,hm,hd,hwm,hwm2,hwd,hw]
   refine⟨⟨a8,a8⟩,?_⟩
   refine bP (P:=Tryz.prog) (n-1) a6 ⟨k+1,a6,?_⟩
   simp only[go_sem,hv2]
   subst hk0
   refine⟨.inr ⟨a6,rfl,?_⟩,fun i hi=>?_⟩
   ·rw[htk];rfl
   ·(repeat rw[if_neg (by omega)]);exact q i hi
  ·simp only[go_sem,q0,q3,q4,qo,hlti,hm,hd,hwm,hwm2,hwd,hw]
   refine⟨by simp[iK,cD];omega,⟨a8,a6⟩,?_⟩
   refine bP (P:=Tryz.prog) (n-1) a6 ⟨k+1,a6,?_⟩
   simp only[go_sem,hv2]
   refine⟨.inr ⟨a6,?_⟩,fun i hi=>?_⟩
   ·rw[htk,l5 (by simp[iK,cD];omega)];simp[iK]
   ·(repeat rw[if_neg (by omega)]);exact q i hi
 ·have hlti:¬(k:Int)<32:=a6
  obtain rfl:k=32:=a6
  rcases q3 with⟨hk0,q3⟩|⟨hk0,q3,qo⟩
  ·omega
  rw[l5 (by rw[cD];decide)] at qo
  simp only[go_sem,q0,q3,q4,show ¬((32:Nat):Int)<32 by decide]
  exact aV (.inl rfl) ⟨by simp[iC,upd],qo,q⟩):P:=h
theorem Vc {P:Prop}(h:P:=by (try simp only[upd]);(repeat rw[if_neg (by omega)])):P:=h
theorem Vd {P:Prop}(h:P:=by
 intro r g2 ob2 S2 K2
 simp only[go_sem]
 refine⟨_,ab.refl _,?_⟩
 simp only[go_sem]
 exact S.pack S2 (K0.trans (bV.down (K1.trans K2) a6)) (by simp only[am,aj,ao,Emit.jM,Emit.kZ,j4,j6,j7,r0,l8,y1]) (by simp only[am,aj,ao,Emit.jM,Emit.kZ,j4,j6,j7,r0,l8,y1]) (rs':=[]) rfl):P:=h
theorem Ve {P:Prop}(h:P:=by
 refine⟨_,ab.refl _,?_⟩
 simp only[go_sem]
 exact aT.nil (fun i hi=>⟨nu,nu⟩) (rs':=[iv .i64 0]) ⟨_,_,rfl,.one (.d _),rfl⟩ ⟨rfl,rfl,rfl⟩):P:=h
theorem Vf {P:Prop}(h:P:=by
 have hargs:∀l:List Operand,(l.map s.ev).all dO=true→RVs (Imm b₀ β s.obj w) w (l.map s.ev) (l.map a.eval):=by
  intro l
  induction l with
  |nil=>intro _;simp only[v8,RVs]
  |cons x l ih=>
    intro h
    simp only[l7,E4,s9] at h
    simp only[l7,RVs]
    exact⟨_,_,rfl,ag.data h.1 (hr.ev x),ih h.2⟩
 have:=hp.2 (Imm b₀ β s.obj w) w (args.toList.map a.eval) (hG _ _ _ _ hφ).2 (fun _ h=>h.1) (hargs _ hd)
 rw[show (args.toList.map a.eval).toArray=args.map a.eval from H4 a7] at this
 refine this.mono fun e w' ⟨v,r,he,hR,hs,hh,hos,hv⟩=>?_
 subst he
 obtain⟨g1,g2⟩:=hr.grow hs hh hos
 have g3:=g2.trans (Tr.same (St.put_gen s op.dst r) (St.put_obj s op.dst r) rfl)
 have h1:=g1.put hdst (RV.rep r (RV.mono (fun b hb=>⟨qJ hr (J:=fun b=>Imm b₀ β s.obj w b∨b≤gb) (fun b h=>h.elim id (rv hr (hG _ _ _ _ hφ))) hb,rfl⟩) r hv))
 exact⟨h1.defers,hn _ β _ w' ⟨r,hR,rfl⟩ h1 (hΦ _ _ _ _ _ _ _ hφ g3)⟩):P:=h
theorem Vg {P:Prop}(h:P:=by
 rw[hdr2,di] at hzb
 have hkn:=AA (fs:=fs) (gr:=gr) (gm:=gm) (szE x2) x2 (l0 _) a6
 obtain⟨y,hy⟩:∃y,iU fs x2=y:=⟨_,rfl⟩
 rw[hy] at hzb hkn
 obtain⟨kd1,op1,num1,name1,kids1⟩:=x2
 have hE2:exD (.mk kd1 op1 num1 name1 kids1)=[.int .i64 kd1,.int .i64 op1,.int .u32 num1,.str name1,.sl (kids1.map exD)]:=by simp only[exD,aZ]
 simp only[go_sem,q0,q33,q34,q35,hki2,hk02,he2,hE2]
 refine bI aa rfl hkn (by simp only[go_sem,exV,hE2,l7,v8]) (B+57) a6 (fun i hi=>nt (hfr i a6)) ((E.mono hB fr).mono hB fun i hi=>⟨nu,nu⟩) ?_
 cases y
 ·simp only[z6] at hzb
  subst hzb
  exact U5
 ·simp only[w7] at hzb
  simp only[go_sem,q35,hw2]
  refine ae (m2-1) a6 ⟨n+1,a6,hzb,?_⟩
  simp only[go_sem,q0,q6,q9,q10,q11,q33,q34,o6]
  exact⟨fun j hj=>⟨nt ((fr j hj).1),nt ((fr j hj).2)⟩,fun j hj=>nt (hfr j hj)⟩):P:=h
theorem Vh {P:Prop}(h:P:=by
 have:(vs.toArray++Array.replicate (fn.ntmps-vs.toArray.size) undef).getD i undef=undef:=by
  rw[v7,G5 (by simp;omega)]
  simp[C3]
  split <;> rfl
 rw[this]
 exact bR):P:=h
theorem Vi {P:Prop}(h:P:=by
 rw[hdr,di] at hza
 have hih:=ih (szE e) a6 e (l0 _) a6
 obtain⟨y,hy⟩:∃y,iU fs e=y:=⟨_,rfl⟩
 rw[hy] at hza hih
 obtain⟨kd1,op1,num1,name1,kids1⟩:=e
 have hE:exD (.mk kd1 op1 num1 name1 kids1)=[.int .i64 kd1,.int .i64 op1,.int .u32 num1,.str name1,.sl (kids1.map exD)]:=by simp only[exD,aZ]
 simp only[go_sem,q0,q9,q10,q11,hki,hk0,he,hE]
 refine bI aa rfl hih (by simp only[go_sem,exV,hE,l7,v8]) (B+36) a6 (fun i hi=>nt (hfr i a6)) ((E.mono hB fr).mono hB fun i hi=>⟨nu,nu⟩) ?_
 cases y
 ·rw[z6] at hza
  subst hza
  exact U5
 ·rw[w7] at hza
  simp only[go_sem,q11,hw]
  refine ae (m-1) a6 ⟨k+1,a6,hza,?_⟩
  simp only[go_sem,q0,q9,q10]
  exact⟨fun j hj=>⟨nt ((fr j hj).1),nt ((fr j hj).2)⟩,fun j hj=>nt (hfr j hj)⟩):P:=h
theorem Vj {P:Prop}(h:P:=by
 simp only[Oper.upon]
 have hargs:∀l:List Operand,(l.map s.ev).all dO=true→RVs (Imm b₀ β s.obj w) w (l.map s.ev) (l.map a.eval):=by
  intro l
  induction l with
  |nil=>intro _;simp only[v8,RVs]
  |cons x l ih=>
    intro h
    simp only[l7,E4,s9] at h
    simp only[l7,RVs]
    exact⟨_,_,rfl,ag.data h.1 (hr.ev x),ih h.2⟩
 have:=hp.2 (Imm b₀ β s.obj w) w (args.toList.map a.eval) (fun _ h=>h.1) (hargs _ hd)
 rw[show (args.toList.map a.eval).toArray=args.map a.eval from H4 a7] at this
 refine this.mono fun e w' ⟨v,r,he,hR,hs,hh,hos,hv⟩=>?_
 subst he
 obtain⟨g1,g2⟩:=hr.grow hs hh hos
 refine hn _ β _ w' ⟨r,hR,rfl⟩ (g1.put hdst (RV.rep r (RV.mono (fun b hb=>⟨qJ hr (fun _ h=>h) hb,rfl⟩) r hv))) (g2.trans (Tr.same (St.put_gen _ _ _) (St.put_obj _ _ _) rfl))):P:=h
theorem Vk {P:Prop}(h:P:=by
 have:∀(es:List (List D)) (_:∀e∈es,e.length=sz) i,es[i]? = some e→es.flatten[i*sz+j]? = some x:=by
  intro es
  induction es with
  |nil=>intro _ i h;simp at h
  |cons e' es ihe=>
    intro hs i h
    have hl:=hs e' a7
    cases i with
    |zero=>
      simp at h
      subst h
      rw[G1,H5 (by simpa using(l4.1 hx).1)]
      simpa using hx
    |succ i=>
      rw[G1,E8 (by rw[hl,E6];omega),hl,show (i+1)*sz+j-sz=i*sz+j by rw[E6];omega]
      exact ihe (fun e h=>hs e (by simp[h])) i (by simpa using h)
 exact this es hsz i he):P:=h
theorem Vl {P:Prop}(h:P:=by
 subst hza
 simp only[go_sem,q10,q11,hki]
 refine⟨_,ab.refl _,?_⟩
 simp only[go_sem]
 exact aT.nil fr (rs':=[bv true]) ⟨_,_,rfl,.one (.d _),rfl⟩ ⟨rfl,rfl,rfl⟩):P:=h
theorem Vm {P:Prop}(h:P:=by exact fun _ _ _ h=>h.elim):P:=h
theorem Vn {P:Prop}(h:P:=by exact⟨fun j hj=>⟨nt ((fr j hj).1),fun h5 h6=>nt ((fr j hj).2 h5 h6)⟩,fun j hj=>nt (hfr j hj)⟩):P:=h
theorem Vo {P:Prop}(h:P:=by
 have e1:=congrFun hset
 simp only[upd] at e1
 rw[e1] at hj ⊢
 by_cases hej:e.on=i
 ·rw[if_pos hej]
 ·rw[if_neg hej]
  by_cases hji:j=i
  ·subst hji
   rw[ho] at hoj
   cases hoj
   exact hedge e he hb
  ·rw[if_neg hji] at hj
   exact hid j o' hj hoj e he hb):P:=h
theorem Vp {P:Prop}(h:P:=by
 intro g2 ob2 p2 q2 r2
 simp only[go_sem]
 refine bh (fun i=>decide (K≤i)) ?_
 exact⟨rfl,hfin _ rfl _ _ p2⟩):P:=h
theorem Vq {P:Prop}(h:P:=by
 rw[hf] at mo1
 simp only[x8,thD] at mo1
 simp only[go_sem,n1,n2,n3,iN,hcm,hm,C8,B3,mo1,hcu]
 refine⟨_,ab.refl _,?_⟩
 simp only[go_sem]
 refine aT.two (ca:=M) (cb:=[.d (.bool false)]) (fun i hi ha hb=>⟨by (try simp only[upd]);(repeat rw[if_neg (by omega)]),by (try simp only[upd]);(repeat rw[if_neg (by omega)])⟩) (by (try simp only[upd]);(repeat rw[if_neg (by omega)])) (by (try simp only[upd]);(repeat rw[if_neg (by omega)])) (by simp only[upd];(repeat rw[if_neg (by omega)]);exact hm) (by simp[upd]) hd.low BL (rs':=[]) rfl ⟨rfl,M,mo.old hf,hd,by rw[hf];simp⟩):P:=h
theorem Vr {P:Prop}(h:P:=by
 intro r g4 ob4 S4 K4
 simp only[go_sem]
 refine⟨_,ab.refl _,?_⟩
 simp only[go_sem]
 exact S.pack S4 (K0.trans (bV.down (K1.trans (K2.trans (K3.trans K4))) a6)) (by simp only[am,aj,ao,Emit.jM,Emit.kZ,j4,j6,j7,r0,l8,y1]) (by simp only[am,aj,ao,Emit.jM,Emit.kZ,j4,j6,j7,r0,l8,y1]) (rs':=[]) rfl):P:=h
theorem Vs {P:Prop}(h:P:=by
 cases yt
 ·simp only[z6] at hzb
  subst hzb
  exact U5
 simp only[go_sem,q0,q6,o6]
 refine bI aa rfl hel (by simp only[go_sem];rfl) (B+57) a6 (fun i hi=>nt (hfr i a6)) ((E.mono hB fr).mono hB fun i hi=>⟨nu,nu⟩) ?_
 cases ye
 ·simp only[z6,C2] at hzb
  subst hzb
  exact U5
 simp only[w7] at hzb
 simp only[go_sem,q11,hw]
 refine ae (m-1) a6 ⟨k+1,a6,hzb,?_⟩
 simp only[go_sem,q0,q9,q10]
 exact⟨fun j hj=>⟨nt ((fr j hj).1),nt ((fr j hj).2)⟩,fun j hj=>nt (hfr j hj)⟩):P:=h
theorem Vt {P:Prop}(h:P:=by
 simp only at q0 q6 q9 q10 q11 q33 q34 q35 o6 fr hfr
 have hw2:=ah (k:=n) a6
 by_cases hlt2:n<es.length
 ·have hki2:(n:Int)<(es.length:Int):=a6
  have hk02:(0:Int)≤(n:Int):=a6
  obtain⟨x2,he2⟩:=getq hlt2
  have hsz2:=Src.Jq (l6 he2)
  have hdr2:es.drop n=x2::es.drop (n+1):=by rw[A0 hlt2,(l4.1 he2).2]
  exact Vg
 have hki2:¬(n:Int)<(es.length:Int):=a6
 obtain rfl:n=es.length:=a6
 rw[E3,di,w7] at hzb
 simp only[go_sem,q0,q6,q34,q35,hki2,o6]
 refine bI aa rfl hth (by simp only[go_sem];rfl) (B+57) a6 (fun i hi=>nt (hfr i a6)) ((E.mono hB fr).mono hB fun i hi=>⟨nu,nu⟩) ?_
 exact Vs):P:=h
theorem Vu {P:Prop}(h:P:=by
 refine ai (fun m st=>∃n:Nat,m+n=es.length∧(di fs (es.drop n)&&(yt&&ye)&&dj fs (l.drop (k+1)))=z∧st.f 0=.one (.ptr 1012 gr 0)∧st.f 6=.one (.ptr (B+6) (st.gen (B+6)) 0)∧st.f 11=.one (.d (.sl (l.map smD)))∧st.f 12=iv .i64 l.length∧st.f 13=iv .i64 k∧st.f 33=.one (.d (.sl (es.map exD)))∧st.f 34=iv .i64 es.length∧st.f 35=iv .i64 n∧
   st.obj (B+6)=some [.d (.int .i64 kind),.d (.str name),.d (.sl (es.map exD)),.d (.sl (th.map smD)),.d (.sl (el.map smD))]∧(∀j,j<B→st.gen j=g j∧st.obj j=ob j)∧(∀j,B+57≤j→st.obj j=none)) es.length ?_ ?_
 ·refine⟨0,rfl,by rw[C1];exact hza,?_⟩
  simp only[go_sem,q0,q9,q10,q11,n1,n2]
  exact⟨fun j hj=>⟨nt ((fr j hj).1),nt ((fr j hj).2)⟩,fun j hj=>nt (hfr j hj)⟩
 clear q0 q9 q10 q11 fr hfr or om mM mo1 hgr hgm
 rintro m2 f g1 ob1 ⟨n,hn,hzb,q0,q6,q9,q10,q11,q33,q34,q35,o6,fr,hfr⟩
 exact Vt):P:=h
theorem Vv {P:Prop}(h:P:=by
 simp only[go_sem,hg,ho1]
 refine bp rfl (by simp only[go_sem];exact hset _ _ (h1.same (fun i hi=>by (try simp only[upd]);repeat (rw[if_neg (by omega)]);try rfl) (fun i hi=>by (try simp only[upd]);repeat (rw[if_neg (by omega)]);try rfl)) x) ?_
 exact U7):P:=h
theorem Vw {P:Prop}(h:P:=by
 obtain⟨v,h1,h2⟩:=hv.get hx
 have hlt:i<vs.length:=(l4.1 h1).1
 have:(vs.toArray++Array.replicate (fn.ntmps-vs.toArray.size) undef).getD i undef=v:=by
  rw[v7,D9 (by simpa using hlt)]
  simp[h1]
 rw[this]
 simpa only[y7] using h2):P:=h
theorem Vx {P:Prop}(h:P:=by
 rintro _ g' ob' ⟨rfl,rfl⟩
 simp only[go_sem,q22,hw]
 refine ae (m-1) a6 ⟨k+1,a6,?_⟩
 simp only[go_sem,q1,q3,q5,q6,q20,q21,e1.1,e13.1,e5.1,e6.1,e1.2,e13.2]
 refine⟨?_,?_,⟨M,rfl,mM⟩,fun j hj=>?_⟩
 ·rw[jN _ he,←D3,h5,jZ,hu]
  first|rfl|(simp;done)|(rw[w7];rfl)
 ·rw[jN _ he,h6]
  rfl
 ·(try simp only[upd]);(repeat rw[if_neg (by omega)])
  rw[(fr j (.inr a6)).2]
  (try simp only[upd]);(repeat rw[if_neg (by omega)])
  exact hfr j a6):P:=h
theorem Vy {P:Prop}(h:P:=by
 refine⟨a6,?_⟩
 simp only[go_sem,p49,hwj]
 refine ae (m-1) a6 ⟨j+1,a6,?_⟩
 simp only[go_sem,p0,p6,p47,p48,hwj,n1,n3,m1,hg5,gC5]
 refine⟨by rw[hfin _ hpv],X5c.to (fun i hi=>?_) (fun i hi=>⟨?_,?_⟩),fun i hi h1 h2 h3 h4 h5=>⟨?_,?_⟩⟩
 ·exact nt (F5.S.top i hi)
 ·have:i≠B+8:=a6
  exact Vc
 ·have:i≠B+8:=a6
  have:i≠B+37:=a6
  exact Vc
 ·exact nt ((O5 i hi h1 h2 h3 h4 h5).1)
 ·exact nt ((O5 i hi h1 h2 h3 h4 h5).2)):P:=h
theorem Vz {P:Prop}(h:P:=by
 have hall:∀i,i<ops.size→listed.getD i true=true:=fun i hi=>by
  have hnf:false∉listed.toList:=fun h=>by
   have:=S9.2 h;omega
  rw[v7,y2 a6]
  simp only[y7]
  cases hq:listed[i]'a6 with
  |true=>rfl
  |false=>exact absurd (hq▸Q7.2 (T4 a6)) hnf
 have hrd:Region.ready .any ops listed=[]:=by
  unfold Region.ready
  rw[M7]
  intro i hi
  simp[hall i (D6.1 hi)]
 exact⟨hrd,hQ _ s β a w hI hr hφ ⟨listed,rfl,hsz,hrd⟩⟩):P:=h
theorem VA {P:Prop}(h:P:=by
 intro a2 q2 h2
 have e:=hlook ⟨_,_,h2⟩
 rw[h2] at e
 cases e
 simp only[go_sem,n1,n2]
 exact hK ⟨_,_,h2⟩):P:=h
theorem VB {P:Prop}(h:P:=by
 intro g2 ob2 p2 q2 r2
 simp only[go_sem]
 refine bh (fun i=>decide (K≤i)) ?_
 exact⟨rfl,hfin _ _ _ p2⟩):P:=h
theorem VC {P:Prop}(h:P:=by
 refine bI aa rfl (hes 2) (by simp only[go_sem];rfl) (B+65) a6 (fun i hi=>nt (hfr i a6)) ((E.mono hB fr).mono hB fun i hi=>⟨nu,nu⟩) ?_
 cases hye2:eb fs 2 es
 ·rw[hye2] at hza
  simp only[z6,C2] at hza
  subst hza
  exact U5
 rw[hye2] at hza
 simp only[w7] at hza
 simp only[go_sem,q0,q4,o4]
 refine bI aa rfl hth (by simp only[go_sem];rfl) (B+65) a6 (fun i hi=>nt (hfr i a6)) ((E.mono hB fr).mono hB fun i hi=>⟨nu,nu⟩) ?_
 exact U6):P:=h
theorem VD {P:Prop}(h:P:=by
 obtain⟨fn,h1,h2,h3⟩:=hp.1
 have h2:¬fn.body=none:=by intro h;rw[h] at h2;simp at h2
 have h3:¬fn.name = "runtime.NumGoroutine":=by simpa using h3
 simp[execOp,ho,resolve,Act.eval,hv1,Deferred.ofValue,invoke,callFunc,h1,h2,h3]):P:=h
theorem VE {P:Prop}(h:P:=by
 obtain⟨fn,h1,h2,h3⟩:=hp.1
 have h2:¬fn.body=none:=by intro h;rw[h] at h2;simp at h2
 have h3:¬fn.name = "runtime.NumGoroutine":=by simpa using h3
 simp[execOp,ho,resolve,Act.eval,hv,Deferred.ofValue,invoke,callFunc,h1,h2,h3]):P:=h
theorem VF {P:Prop}(h:P:=by
 have hw:=ah (k:=k) a6
 by_cases hlt:k<kids.length
 case neg=>
  have hki:¬(k:Int)<(kids.length:Int):=a6
  obtain rfl:k=kids.length:=a6
  rw[E3,di] at hza
  exact Vl
 have hki:(k:Int)<(kids.length:Int):=a6
 have hk0:(0:Int)≤(k:Int):=a6
 obtain⟨e,he⟩:=getq hlt
 have hsz1:=Src.Jq (l6 he)
 have hdr:kids.drop k=e::kids.drop (k+1):=by rw[A0 hlt,(l4.1 he).2]
 exact Vi):P:=h
theorem VG {P:Prop}(h:P:=by
 have g3_1:g1 (B+3)=gI:=(K1.gen (B+3) a6 a6 a6).trans (by simp only[upd];rw[if_pos trivial])
 simp only[go_sem,p3_1,g3_1]
 refine aM aa rfl (ll hP 1 0 a8) (B+10) G D H gG _ _ (by first|rfl|simp only[go_sem,p3_1,g3_1,bb]) hg1 S1 (by first|exact hl|((try simp only[am,aj,ao,Emit.jM,Emit.kZ,j4,j6,j7]);omega)) (by first|exact hh|((try simp only[am,aj,ao,Emit.jM,Emit.kZ,j4,j6,j7,l8]);omega)) ?_
 exact Vd):P:=h
theorem VH {P:Prop}(h:P:=by
 simp only[u7,s7,l9,s6] at hop;subst hop
 simp only[go_sem,k3,k8,k9,hc]
 exact r9):P:=h
theorem VI {P:Prop}(h:P:=by
 refine bI aa rfl h (by simp only[go_sem];rfl) (B+20) a6 (fun i hi=>nt (hf i a6)) (E.mono hB fun i hi=>⟨nu,nu⟩) ?_
 simp only[go_sem]
 cases eb fs 1 kids
 ·simp only[go_sem]
  exact Ve
 ·simp only[go_sem]
  refine⟨_,ab.refl _,?_⟩
  simp only[go_sem]
  exact aT.nil (fun i hi=>⟨nu,nu⟩) (rs':=[iv .i64 1]) ⟨_,_,rfl,.one (.d _),rfl⟩ ⟨rfl,rfl,rfl⟩):P:=h
theorem VJ {P:Prop}(h:P:=by
 have hji:(j:Int)<(out.length:Int):=a6
 have hj0:(0:Int)≤(j:Int):=a6
 obtain⟨v,hv⟩:=getq hlj
 have hvb:=hov v (l6 hv)
 simp only[go_sem,f57,f58,f59,f8,hji,hj0,hv,hwj,j5]
 rw[A0 hlj,Emit.vh,show out[j]=v from(l4.1 hv).2] at hdp
 refine cU (m-1) a6 ⟨j+1,max dp v,a6,hdp,a6,a6,?_⟩
 simp only[go_sem,f1,f2,f3,f20,f21,f4,f57,f58,o1,o2,o3,o34,o41,o55]):P:=h
theorem VK {P:Prop}(h:P:=by
 simp only[u7,s7,l9,s6] at hop;subst hop
 simp only[go_sem,k3,k9,hc]
 exact r9):P:=h
theorem VL {P:Prop}(h:P:=by
 obtain⟨v,h1,h2⟩:=hget _ _ hv i x hx
 have hlt:i<vs.length:=(l4.1 h1).1
 have:(vs.toArray++Array.replicate (fn.ntmps-vs.toArray.size) undef).getD i undef=v:=by
  rw[v7,D9 (by simpa using hlt)]
  simp[h1]
 rw[this]
 simp only[y7]
 exact RV.rep x (RV.mono (fun b hb=>⟨⟨hJ b hb,fun _=>hb,fun id a ho=>by cases ho⟩,rfl⟩) x h2)):P:=h
theorem VM {P:Prop}(h:P:=by
 refine fm rfl (by simp only[go_sem];exact hD) ?_
 rintro _ rfl
 simp only[go_sem,q1,q4,q4o,q5,q5o,q6,hk0,hlti]
 refine⟨by simp only[j4,j6,hpl];omega,by simp only[j4,j6,hol];omega,?_⟩
 simp only[go_sem,q6,hw]
 refine bP m a6 ⟨k+1,a6,?_⟩
 simp only[go_sem,q1,q1g,q1o,q4,q5]
 exact⟨by rw[hs4,hi1],by rw[hs1,ho1]⟩):P:=h
theorem VN {P:Prop}(h:P:=by
 refine⟨_,ab.refl _,?_⟩
 simp only[go_sem]
 exact aT.nil (fun i hi=>⟨nt ((fr i hi).1),nt ((fr i hi).2)⟩) (rs':=[bv false]) ⟨_,_,rfl,.one (.d _),rfl⟩ ⟨rfl,rfl,rfl⟩):P:=h
theorem VO {P:Prop}(h:P:=by
 obtain⟨h1,h2,h3⟩:=h
 refine⟨h1,A9 h2 (hk.gen id),fun hg ho=>?_⟩
 have e:g' id=g id:=R2 a6 (hk.gen id)
 obtain⟨l1,l2,_⟩:=hk.live id e ho
 rw[l2];exact h3 a6 l1):P:=h
theorem VP {P:Prop}(h:P:=by exact⟨z,cv,h1,fun w' hw'=>by simp[execOp,h2 w' hw'],h3⟩):P:=h
theorem VQ {P:Prop}(h:P:=by
 by_cases h2:x.op=3∨x.op=9∨x.op=13
 ·omega
 by_cases h3:x.op=4∨x.op=7
 ·omega
 by_cases h4:x.op=5
 ·omega
 by_cases h5:x.op=6
 ·omega
 by_cases h6:x.op=8
 ·omega
 by_cases h7:x.op=10
 ·omega
 by_cases h8:x.op=11
 ·omega
 rw[if_neg h1,if_neg h2,if_neg h3,if_neg h4,if_neg h5,if_neg h6,if_neg h7,if_neg h8] at h
 cases h):P:=h
theorem VR {P:Prop}(h:P:=by
 refine⟨_,ab.refl _,?_⟩
 simp only[go_sem,n1,n2]
 exact aT.nil (fun i hi=>⟨by (try simp only[upd]);(repeat rw[if_neg (by omega)]);first|done|rfl|exact(hlw i hi).1,by (try simp only[upd]);(repeat rw[if_neg (by omega)]);first|done|rfl|exact(hlw i hi).2⟩) (rs':=[pt (some t)]) ⟨_,_,rfl,BK (thD t),rfl⟩ ⟨rfl,rfl,rfl⟩):P:=h
theorem VS {P:Prop}(h:P:=by
 simp only[go_sem,hg,ho1]
 exact⟨a6,aV (.inl rfl) (FrW.from (h1.done (m':={ m with steps:=m.steps+1,fin:=8 }) ho1 (fun i hi=>by (try simp only[upd]);repeat (rw[if_neg (by omega)]);try rfl) (fun i hi=>by (try simp only[upd]);repeat (rw[if_neg (by omega)]);try rfl) (by simp[upd] <;> rfl) rfl rfl fun _ _ _ hr=>hr.setFin 8) hfr)⟩):P:=h
theorem VT {P:Prop}(h:P:=by
 rw[hsome i] at hi'
 refine⟨hi',rfl,fun a' ha' arr1 el1 fr1 h1=>?_⟩
 by_cases hb:a'.block=ad.block
 ·rw[hb] at h1 ⊢
  rw[f1] at h1
  cases h1
  exact⟨arr,el,(lo,hi),hblk,a6⟩
 ·rw[heap_setCells_other _ _ _ _ _ hb] at h1
  exact⟨arr1,el1,fr1,h1,l0 _⟩):P:=h
theorem VU {P:Prop}(h:P:=by simp only[go_sem]):P:=h
theorem VV {P:Prop}(h:P:=by
 simp only[go_sem,hg,ho1,ra,ha0,hzi]
 refine⟨a6,?_⟩
 refine bp rfl (by simp only[go_sem];exact hjump _ _ (h1.same (fun i hi=>by (try simp only[upd]);repeat (rw[if_neg (by omega)]);try rfl) (fun i hi=>by (try simp only[upd]);repeat (rw[if_neg (by omega)]);try rfl)) false) ?_
 exact U7):P:=h
theorem VW {P:Prop}(h:P:=by
 simp only[go_sem,hg,ho1,ra,ha0,hzi]
 refine⟨a6,?_⟩
 refine bp rfl (by simp only[go_sem];exact hjump _ _ (h1.same (fun i hi=>by (try simp only[upd]);repeat (rw[if_neg (by omega)]);try rfl) (fun i hi=>by (try simp only[upd]);repeat (rw[if_neg (by omega)]);try rfl)) true) ?_
 exact U7):P:=h
theorem VX {P:Prop}(h:P:=by
 refine⟨by simp only[go_sem,q4],by simp only[go_sem,q5],by simp only[go_sem],by simp only[go_sem],by simp only[go_sem,e4,e5,e6],by simp only[go_sem,e4,e5,e6],by simp only[go_sem,hc4,hc5,hc6],fun i hi hic=>?_⟩
 simp only[upd]
 (repeat rw[if_neg (by omega)])
 exact⟨rfl,rfl⟩):P:=h
theorem VY {P:Prop}(h:P:=by
 refine⟨_,ab.refl _,?_⟩
 simp only[go_sem]
 exact aT.nil (fun i hi=>⟨nu,nu⟩) (rs':=[iv .i64 2]) ⟨_,_,rfl,.one (.d _),rfl⟩ ⟨rfl,rfl,rfl⟩):P:=h
theorem VZ {P:Prop}(h:P:=by
 intro r g1 ob1 S1 K1
 simp only[go_sem]
 refine⟨_,ab.refl _,?_⟩
 simp only[go_sem]
 exact S.pack S1 (K0.trans (bV.down K1 a6)) rfl rfl (rs':=[]) rfl):P:=h
theorem V0 {P:Prop}(h:P:=by
 refine⟨y,cv,q1,fun w' hw'=>?_,q3⟩
 have q2:=q2 w' hw'
 simp only[Sem.run_pure,Result.ok.injEq,L1] at q2
 subst q2
 have hf:(Instr.findKey kt (dV k0) []).run P w'=.ok none w':=MapKept.run_findKey hk rfl
 simp[Instr.lookup,run_underlying hu,hck,hf,hzr]):P:=h
theorem V1 {P:Prop}(h:P:=by
 refine⟨y,cv,q1,fun w' hw'=>?_,q3⟩
 have q2:=q2 w' hw'
 rw[g2] at q2
 simp only[Sem.run_pure,Result.ok.injEq,L1] at q2
 subst q2
 simp[Instr.lookup,run_underlying hu,MapKept.run_getObj_map (hw'.cells hblk),hck,MapKept.run_findKey hk g1,hzr]):P:=h
theorem V2 {P:Prop}(h:P:=by
 simp only[go_sem]
 exact hK):P:=h
theorem V3 {P:Prop}(h:P:=by
 refine⟨0,rfl,⟨?_,?_,?_,?_,?_,?_,?_⟩,?_⟩ <;> (simp only[go_sem,q1,q4,q5,q6,o1,o4,o5,hT0])
 ·rfl
 ·exact fr
 ·exact⟨M,oM,mM,dM⟩):P:=h
theorem V4 {P:Prop}(h:P:=by exact wpIn_mono (hR N β a ds w hc hr hφ) (fun e a' w' ⟨s',β',a0,ds',h0,h1,h2,h3⟩=>⟨s',β',a0,ds',h0,h1.imp (hK _ _) (fun h=>h),h2,h3⟩)):P:=h
theorem V5 {P:Prop}(h:P:=by
 refine fQ x6 ?_
 intro K' hK'
 simp only[go_sem]
 refine hK' _ ?_
 clear hK' K'
 simp only[go_sem,q11,hw]
 refine ae (m-1) a6 ⟨k+1,a6,?_⟩
 simp only[go_sem,q2,q9,q10,o2]
 refine⟨by rw[ub he],fun j hj=>⟨nt ((fr j hj).1),nt ((fr j hj).2)⟩,fun j hj=>nt (hfr j hj)⟩):P:=h
theorem V6 {P:Prop}(h:P:=by
 have:(fun i=>(Array.replicate ops.size false).getD i false)=fun _=>false:=by
  funext i
  rw[v7,C3]
  split <;> rfl
 rw[this];exact h0):P:=h
theorem V7 {P:Prop}(h:P:=by
 exfalso
 obtain⟨e,he,ho,htb⟩:=hent i hi
 obtain⟨e',he',ho',htb'⟩:=hent j hj
 simp only[dst,ho,ho',I2] at h1 h2
 rcases(hchk i e hi ho htb).2.1 j e'.o hj a6 ho' with h|h
 ·rw[h] at h2;cases h2
 ·exact h (by rw[h1,h2])):P:=h
theorem V8 {P:Prop}(h:P:=by
 refine oX (fun i=>p i=true) rfl (fun i=>.inl rfl) (fun i cells' hc=>?_)
 simp only at hc
 by_cases h:p i=true
 ·rw[if_pos h] at hc;cases hc
 ·rw[if_neg h] at hc
  exact⟨h,cells',hc,rfl,fun j c c' e1 e2=>.inl (by rw[e1] at e2;exact(D5 e2).symm)⟩):P:=h
theorem V9 {P:Prop}(h:P:=by
 simp only[upd,v7,M9]
 by_cases hj:i=j
 ·subst hj;simp[hsz,hi1]
 ·have:¬j=i:=fun e=>hj e.symm
  simp[hj,this]):P:=h
theorem Wa {P:Prop}(h:P:=by
 simp only[go_sem,j7,v8]
 refine ai (fun m st=>m=0∧st.f 14=.one (.d (.sl []))∧st.f 15=iv .i64 0∧st.f 16=iv .i64 0) 0 ?_ ?_
 ·exact VU
 rintro m f g1 ob1 ⟨rfl,q14,q15,q16⟩
 simp only at q14 q15 q16
 simp only[go_sem,q14,q15,q16]):P:=h
theorem Wb {P:Prop}(h:P:=by exact .sl (sz:=sz) (fun _ _=>undef) a7 (fun h=>absurd rfl h) (fun _ h=>by cases h) (fun _ _ h=>by cases h) (fun _ _ h=>by cases h)):P:=h
theorem Wc {P:Prop}(h:P:=by
 have hty:=(hT t (by rw[hd];rfl)).desc
 rw[hd] at hty
 refine eP h fun w=>?_
 rw[Sem.run_bind,fC _ _ _ _ _ _ a7 a7]
 simp only[binOp,Sem.run_bind,Result.andThen_ok,run_equal_bool hty,Sem.run_pure]
 cases a <;> cases b <;> rfl):P:=h
theorem Wd {P:Prop}(h:P:=by exact cY hex ⟨hr'.defers,hn _ β _ w rfl hr' (hΦ _ _ _ _ _ _ _ hφ (Tr.same (St.put_gen _ _ _) (St.put_obj _ _ _) rfl))⟩):P:=h
theorem We {P:Prop}(h:P:=by
 refine ae (m-1) a6 ⟨k+1,a6,⟨?_,?_,?_,?_,?_,?_,?_⟩,?_⟩ <;> (simp only[go_sem,q1,q4,q5,q6,o1,o4,q16,q17])
 ·rw[hT,iH]
 ·exact fun i hi=>⟨nt ((fr i hi).1),nt ((fr i hi).2)⟩
 ·exact⟨M',rfl,by rw[hT];exact mM',dM'⟩):P:=h
theorem Wf {P:Prop}(h:P:=by
 refine⟨h.1,h0.2.1,fun hg ho=>?_⟩
 obtain⟨l1,l2,l3⟩:=hl id ho
 rw[←l2];exact h.2.2 (by rw[l1];exact hg) l3):P:=h
theorem Wg {P:Prop}(h:P:=by
 refine ae (m-1) a6 ⟨k+1,a6,⟨?_,?_,?_,?_,?_,?_,?_⟩,?_⟩ <;> (simp only[go_sem,q1,q4,q5,q6,o1,o4,q16,q17])
 ·rw[hT,iH]
 ·exact fun i hi=>⟨(fr i hi).1,nt ((fr i hi).2)⟩
 ·exact⟨M',rfl,by rw[hT];exact mM',dM'⟩):P:=h
theorem Wh {P:Prop}(h:P:=by
 rw[hq] at hc
 simp only[x8,s6] at hc
 subst hc
 refine⟨_,rfl,?_⟩
 simp only[aq]
 exact bB.of_plain (by have:=hty.plain;rw[x7] at this;exact this x (l6 hq))):P:=h
theorem Wi {P:Prop}(h:P:=by
 have h1:=Src.Ot x.word x.body
 have h2:=Src.Jp (fun x:Src.CFn=>Src.lK x.body) hx
 have h3:((al p).funcs.map fun x=>Src.lK x.body).sum=(p.funcs.map fun f=>Src.bu f.body).sum:=Src.xG _ _ _
 unfold Emit.gQ
 omega):P:=h
theorem Wj {P:Prop}(h:P:=by
 intro g1 ob1 p1 q1 r1
 simp only[go_sem]
 refine fN (fun i=>decide (K≤i)) ?_
 exact⟨rfl,p1.fin hK⟩):P:=h
theorem Wk {P:Prop}(h:P:=by exact⟨hr'.defers,v,h1,v,r,rfl,h2,ht.size,fun b hb=>ht.old b hb,ht.os,h3⟩):P:=h
theorem Wl {P:Prop}(h:P:=by exact jP (.inl rfl) ⟨rfl,fun i hi=>by simp only[upd];(repeat rw[if_neg (by omega)]);exact⟨rfl,rfl⟩⟩):P:=h
theorem Wm {P:Prop}(h:P:=by
 simp only[r0,z8,y1] at this ⊢
 exact this):P:=h
theorem Wo {P:Prop}(h:P:=by exact wp_mono (hR b₀ N β a w hc hr) (fun e a' w' ⟨s',β',h1,h2,h3⟩=>⟨s',β',hK _ _ h1,h2,h3⟩)):P:=h
theorem Wp {P:Prop}(h:P:=by
 refine⟨_,ab.refl _,?_⟩
 simp only[go_sem]
 exact S.pack S1 (K1.down a6) rfl rfl (rs':=[]) rfl):P:=h
theorem Wq {P:Prop}(h:P:=by exact⟨_,cT (k:=0) (v:=0) (e:=3),rfl⟩):P:=h
theorem Ws {P:Prop}(h:P:=by
 rw[l5 (l0 _),hL] at o5 mM
 simp only[go_sem,q17,q18,hki]
 refine aJ b9 ?_
 simp only[go_sem,q4,q5,o4,o5]
 refine⟨_,ab.refl _,?_⟩
 simp only[go_sem]
 exact⟨rfl,⟨M,oM,mM,dM⟩,fr⟩):P:=h
theorem Wt {P:Prop}(h:P:=by
 rintro _ rfl
 unfold qC eY
 simp only[go_sem]
 exact⟨_,qP,rfl⟩):P:=h
theorem Wu {P:Prop}(h:P:=by
 rintro _ g3 ob3 ⟨rfl,hB3,_,_,hfree3⟩
 simp only[go_sem,q23,hw]
 refine ae (n-1) a6 ⟨k+1,a6,?_⟩
 simp only[go_sem,q4,q21,q22]
 rw[htk,←r0]
 exact⟨rfl,hB3,hfree3⟩):P:=h
theorem Wv {P:Prop}(h:P:=by
 subst h hn
 exact⟨rfl,⟨fd 0 1 rfl a8 a6 a7 (by rw[hT];congr 1;omega),trivial⟩,fun h=>h.1⟩):P:=h
theorem Ww {P:Prop}(h:P:=by
 refine⟨0,0,rfl,rfl,G6 _,a8,?_⟩
 simp only[go_sem,f1,f2,f3,f20,f21,f4,o1,o2]
 refine⟨?_,?_,?_⟩
 ·rw[l5 a6,rW];rfl
 ·rw[l5 a6,jz];rfl
 ·rw[l5 a6,jz];rfl):P:=h
theorem Wx {P:Prop}(h:P:=by
 refine⟨0,rfl,⟨?_,?_,?_,?_,?_,?_,?_⟩,?_⟩ <;> (simp only[go_sem])
 ·rfl
 ·rfl
 ·exact fun i hi=>⟨nu,nu⟩
 ·exact⟨[],rfl,fun s=>rfl,fun c hc=>by cases hc⟩):P:=h
theorem Wy {P:Prop}(h:P:=by
 refine⟨_,ab.refl _,?_⟩
 simp only[go_sem,n1,n2]
 exact aT.nil (fun i hi=>⟨nu,nu⟩) (rs':=[.agg ((plD t).map .d)]) ⟨_,_,rfl,BK (plD t),rfl⟩ ⟨rfl,rfl,rfl⟩):P:=h
theorem Wz {P:Prop}(h:P:=by
 simp only[Oper.upon]
 have:=hp.2 b₀ N β a s.f w (args.toList.map a.eval) hr (gp hr _)
 rw[show (args.toList.map a.eval).toArray=args.map a.eval from H4 a7] at this
 exact Va):P:=h
theorem WA {P:Prop}(h:P:=by
 refine this.mono fun e w' ⟨v,r,g',ob',β',he,hR,hv,h1,h2,h3⟩=>?_
 subst he
 obtain⟨k1,k2⟩:=fM hr hdst hv h1 h2 h3
 exact hn _ β' _ w' ⟨r,g',ob',hR,rfl⟩ k1 k2):P:=h
theorem WB {P:Prop}(h:P:=by
 simp only[St.newC,upd];split
 ·rename_i he;subst he;exact US (uI _ _)
 ·exact l0 _):P:=h
theorem WD {P:Prop}(h:P:=by
 have hta:=ht.trans ht2
 obtain⟨v,avs,h1,h2,h3,_⟩:=ce hT hr2 hres hR
 exact⟨v,h1,v,_,_,_,β2,rfl,h2,h3,hr2.obj,hr2.inj,⟨hta.size,hta.old,hta.keep,hta.os⟩⟩):P:=h
theorem WE {P:Prop}(h:P:=by
 have hta:=(hφ4.2.2.trans ht5).trans ht6
 exact⟨hta.size,hta.old,hta.keep,hta.os⟩):P:=h
theorem WG {P:Prop}(h:P:=by
 refine⟨_,ab.refl _,?_⟩
 simp only[go_sem]
 exact aT.use (fun i hi h5 h6=>⟨(fr i hi).1,(fr i hi).2 h5 h6⟩) (fr 5 a6).1 (fr 6 a6).1 o5 o6 (rs':=[]) rfl):P:=h
theorem WH {P:Prop}(h:P:=by
 obtain⟨k,t,v⟩:=y
 rw[si]
 simp only[go_sem]
 exact⟨_,cT (e:=0),rfl⟩):P:=h
theorem WI {P:Prop}(h:P:=by
 rcases hi3 e (by simpa using he) with h|h
 ·rw[hb] at h;cases h
 ·exact h):P:=h
theorem WJ {P:Prop}(h:P:=by
 intro xs h
 simp only[l7,cG] at h
 obtain⟨r,rs,rfl,h1,h2⟩:=h
 simp only[l7,RVs]
 exact⟨_,_,rfl,h1.rep hr (hr.ev x),ih rs h2⟩):P:=h
theorem WK {P:Prop}(h:P:=by exact⟨y,cv,h1,fun w' hw'=>by simp[execOp,h2 w' hw'],h3⟩):P:=h
theorem WL {P:Prop}(h:P:=by
 simp only[ag,aq]
 exact⟨rfl,hv.2.1,fun _ _=>⟨ad,hβ,hsp,by simp[C0]⟩⟩):P:=h
theorem WM {P:Prop}(h:P:=by exact h.elim):P:=h
theorem WN {P:Prop}(h:P:=by exact⟨_,⟨_,⟨_,_,rfl,eN .nsl,_,_,rfl,eN _,_,_,rfl,eN _,rfl⟩,rfl⟩,rfl⟩):P:=h
theorem WO {P:Prop}(h:P:=by simpa using this):P:=h
theorem WQ {P:Prop}(h:P:=by
 unfold iO
 split
 ·rename_i hm
  simp only[x9,A1,E7] at hm
  rcases hm with rfl|rfl
  ·exact Vc
  ·exact absurd rfl hi
 ·rfl):P:=h
theorem WR {P:Prop}(h:P:=by refine⟨⟨by rw[setCells_size];exact hb.1,hb.2.1,fun i a' hi'=>hb.2.2 i a' (by rw[←hsome i];exact hi')⟩,heap_setCells_other _ _ _ _ _ hne⟩):P:=h
theorem WS {P:Prop}(h:P:=by
 subst he
 obtain⟨k1,k2⟩:=fM hr hdst hv h1 h2 h3
 exact⟨k1.defers,hn _ β' _ w' ⟨r,g',ob',hR,rfl⟩ k1 (hΦ _ _ _ _ _ _ _ hφ k2)⟩):P:=h
theorem WT {P:Prop}(h:P:=by
 rcases this with((h|h)|h)|h
 ·exact .inl h
 ·exact .inr (.inl h)
 ·exact .inr (.inr h)
 ·rw[L4.2 hat] at h;cases h):P:=h
theorem WU {P:Prop}(h:P:=by
 have:=mI hcl hid j e2.o ho2 (fun e' he' hb'=>hid j _ hLj ho2 e' he' hb') i h
 rw[hL] at this
 exact absurd this.1 a7):P:=h
theorem WV {P:Prop}(h:P:=by exact eT hT more rest hp' hds' hp.2 h (fun s2 a2 k1 k2 k3=>hQ _ _ k1 k2 (Tr.trans (Tr.same (by rw[St.put_gen]) (by rw[St.put_obj]) rfl) k3))):P:=h
theorem WW {P:Prop}(h:P:=by exact jm hT rest hp hds' h (fun s2 β2 a2 w2 k1 k2 k3=>hQ _ _ _ _ k1 k2 (Tr.trans (Tr.same (by rw[St.put_gen]) (by rw[St.put_obj]) rfl) k3))):P:=h
theorem WX {P:Prop}(h:P:=by exact fp hT more rest hp' hds' hp.2 h (fun s2 a2 k1 k2 k3=>hQ _ _ k1 k2 (Tr.trans (Tr.same (by rw[St.put_gen]) (by rw[St.put_obj]) rfl) k3))):P:=h
theorem WY {P:Prop}(h:P:=by
 simp only[go_sem,e1,e2,hli,hl]
 refine fm rfl (by simp only[go_sem];exact h3 false) ?_
 rintro _ rfl
 simp only[go_sem,hl]):P:=h
theorem WZ {P:Prop}(h:P:=by
 simp only[go_sem,e1,e2,hli,hl]
 refine fm rfl (by simp only[go_sem];exact h3 true) ?_
 rintro _ rfl
 simp only[go_sem,hl]):P:=h
theorem W0 {P:Prop}(h:P:=by
 simp only[go_sem,n8,n9,q1,q2,q3,q7,q8]
 exact Vn):P:=h
theorem W1 {P:Prop}(h:P:=by
 rw[if_pos hw] at h
 rw[if_pos (by simp[Region.wanted,hg,hy,hw])]
 exact hop hr' (Tr.same rfl rfl rfl) h):P:=h
theorem W2 {P:Prop}(h:P:=by
 simp only[upd]
 split
 ·rename_i he;rw[he,ho];rfl
 ·rfl):P:=h
theorem W3 {P:Prop}(h:P:=by
 refine⟨0,rfl,?_⟩
 simp only[St.grab]
 simp only[go_sem]
 exact⟨rfl,fun j hj=>⟨nu,nu⟩,fun j hj=>nt (hB j a6)⟩):P:=h
theorem W4 {P:Prop}(h:P:=by
 simp only[s9] at this
 have h2:=this.1.1
 simp only at ha2
 rw[←ha2,jE] at h2
 cases h2):P:=h
theorem W5 {P:Prop}(h:P:=by
 refine⟨0,rfl,by rw[C1];exact hz,?_⟩
 simp only[go_sem]
 exact⟨fun j hj=>⟨nu,nu⟩,fun j hj=>nt (hf j a6)⟩):P:=h
theorem W6 {P:Prop}(h:P:=by
 rw[sj]
 simp only[go_sem]
 exact⟨_,cT (k:=0) (v:=0),rfl⟩):P:=h
theorem W7 {P:Prop}(h:P:=by
 rw[e1]
 exact⟨a6,⟨a8,a6⟩,hK⟩):P:=h
theorem W8 {P:Prop}(h:P:=by
 have:=x7.1 hds ops[i] (G3 hi1)
 rw[hd] at this
 exact WO):P:=h
theorem W9 {P:Prop}(h:P:=by
 simp only[go_sem,n8,n9,q1,q2,q6,q7]
 exact Vn):P:=h
theorem Xa {P:Prop}(h:P:=by
 rw[hβ] at hat
 obtain⟨rfl,rfl⟩:=hat
 have:es=[]:=y8 hlen
 subst this
 exact .sl0):P:=h
theorem Xb {P:Prop}(h:P:=by exact eK h (fun w=>by simp[Builtin.len_,run_underlying hu,goInt])):P:=h
theorem Xc {P:Prop}(h:P:=by obtain⟨_,_,_,_,_,h⟩:=hok;rcases h with⟨h,_⟩|⟨h,_⟩|⟨h,_⟩|⟨h,_⟩|⟨h,_⟩|⟨h,_⟩|⟨_,h⟩ <;> omega):P:=h
theorem Xd {P:Prop}(h:P:=by
 refine⟨0,a,b,rfl,by rw[C1];exact hx0,by rw[C1];exact hy0,?_⟩
 simp only[go_sem,hn,hu]
 exact fun j hj=>hB j a6):P:=h
theorem Xe {P:Prop}(h:P:=by
 rw[hg] at h
 simp only at h
 rw[if_pos (by simp[Region.wanted,hg])]
 exact hop hr Tr.refl h):P:=h
theorem Xf {P:Prop}(h:P:=by
 obtain⟨k,rfl⟩:∃k,op=k+1:=⟨op-1,a6⟩
 have:names.length≤k:=by show 27≤k;omega
 simp[nameOf,this]):P:=h
theorem Xg {P:Prop}(h:P:=by exact fh hT rest hp' hds' hp.2 h (fun s2 a2 k1 k2 k3 k4=>hQ _ _ k1 k2 (by rw[k3,St.put_gen]) (by rw[k4,St.put_obj]))):P:=h
theorem Xh {P:Prop}(h:P:=by
 obtain⟨n,hn⟩:∃n,Op.maxDepth=n+1:=⟨_,rfl⟩
 unfold Op.equal
 rw[hn,Op.equalIn]
 simp[run_underlying hu]):P:=h
theorem Xi {P:Prop}(h:P:=by
 obtain⟨u,hu,hru⟩:=hcells _ _ (hc m x hx)
 exact⟨u,by rw[cI hblk,C0];exact hu,ih m x hx hru⟩):P:=h
theorem Xj {P:Prop}(h:P:=by
 obtain⟨cells,hc⟩:=J4.1 hi
 have:=hr.obj i cells hc
 rw[ha'] at this
 exact this.block.2):P:=h
theorem Xk {P:Prop}(h:P:=by
 refine⟨0,rfl,a7,?_⟩
 exact VU):P:=h
theorem Xl {P:Prop}(h:P:=by
 have hge:args.length≤i:=by simpa using hx
 exact Vh):P:=h
theorem Xm {P:Prop}(h:P:=by
 rintro m f g1 ob1 ⟨k,hk,hza,q0,q9,q10,q11,fr,hfr⟩
 simp only at q0 q9 q10 q11 fr hfr
 exact VF):P:=h
theorem Xn {P:Prop}(h:P:=by
 rw[v7,y2 a6] at hi2
 rw[y2 a6]
 simpa using hi2):P:=h
theorem Xo {P:Prop}(h:P:=by
 unfold inW
 cases b
 ·exact VU
 ·simp only[go_sem]
  exact⟨fun h=>by simp[h],fun h=>by simp[h]⟩):P:=h
theorem Xp {P:Prop}(h:P:=by
 simp only[l7,x9,not_or] at hv
 simp only[maskm,upd]
 rw[if_neg hv.1]
 exact ih hv.2):P:=h
theorem Xq {P:Prop}(h:P:=by
 have hge:xs.length≤i:=by simpa using hx
 exact Vh):P:=h
theorem Xr {P:Prop}(h:P:=by
 rw[hq] at hc
 simp only[x8,s6] at hc
 subst hc
 exact e3 j x hq):P:=h
theorem Xs {P:Prop}(h:P:=by exact⟨s',β',a0,ds',rfl,.inr ⟨ch,rfl,h1⟩,h2,h3⟩):P:=h
theorem Xt {P:Prop}(h:P:=by
 subst h hn
 exact⟨rfl,⟨fd 1 1 rfl a8 a6 a7 (by rw[hT];congr 1;omega),trivial⟩,fun h=>h.1⟩):P:=h
theorem Xu {P:Prop}(h:P:=by
 have h3:¬fnD.name = "runtime.NumGoroutine":=by simpa using hnn
 simp[invoke,callFunc,hf,hb,h3]):P:=h
theorem Xv {P:Prop}(h:P:=by exact⟨arr1,el1,fr1,h1,l0 _⟩):P:=h
theorem Xw {P:Prop}(h:P:=by
 intro r g1 ob1 hr
 simp only[go_sem]
 refine⟨_,ab.refl _,?_⟩
 simp only[go_sem]
 exact hr):P:=h
theorem Xx {P:Prop}(h:P:=by exact⟨z,cv,h1,fun w' hw'=>by rw[Sem.run_bind,fC _ _ _ _ _ _ a7 a7];simpa using h2 w' hw',h3⟩):P:=h
theorem Xy {P:Prop}(h:P:=by simp only[upd];rw[if_pos trivial];simp only[aU.cells,aU.at,hQ.s,hQ.ds,hQ.bk,hQ.b,hQ.e,hQ.p,ksD]):P:=h
theorem Xz {P:Prop}(h:P:=by exact cY (by simp[execOp,h2]) (hn _ _ _ _ h1 h3 h4)):P:=h
theorem XA {P:Prop}(h:P:=by
 rw[e1]
 exact⟨l0 _,fun e he=>by obtain⟨x,_,rfl⟩:=H8.1 he;rfl,⟨a8,a6⟩,hK⟩):P:=h
theorem XB {P:Prop}(h:P:=by
 rw[hq] at hs
 cases hs
 have:=hout hq
 simp only at this
 omega):P:=h
theorem XC {P:Prop}(h:P:=by
 simp only[go_sem,f1,f2,f3,f20,f4,o1,o2,o34,o41,o55]
 exact⟨_,_,_,_,rfl,rfl,rfl,rfl⟩):P:=h
theorem XD {P:Prop}(h:P:=by
 rintro ch g' ob' ⟨rfl,m,hp,hc,rfl⟩
 exact hin.rdr.pan (by simp[upd]) (hno m hp) hc):P:=h
theorem XE {P:Prop}(h:P:=by
 refine⟨0,rfl,by rw[C1];exact hz,?_⟩
 simp only[go_sem]
 exact fun j hj=>hf j a6):P:=h
theorem XF {P:Prop}(h:P:=by
 rw[if_pos h]
 have hi:¬(e:Int)=0:=a6
 simp only[go_sem,hi]
 exact⟨_,mw,rfl⟩):P:=h
theorem XG {P:Prop}(h:P:=by
 simp only[hi1,hi2,A4] at h1 h2 hb1 hb2
 exact hr.inj i1 i2 a1 a2 h1 h2 hb1 hb2 hb):P:=h
theorem XH {P:Prop}(h:P:=by
 by_cases h:l=[]
 ·exact .inl h
 ·exact .inr ⟨l.dropLast,l.getLast h,(N0 h).symm⟩):P:=h
theorem XI {P:Prop}(h:P:=by
 simp only[go_sem]
 exact⟨_,⟨_,⟨_,_,rfl,eN _,_,_,rfl,eN _,rfl⟩,rfl⟩,rfl⟩):P:=h
theorem XJ {P:Prop}(h:P:=by
 rintro _ rfl
 exact V2):P:=h
theorem XK {P:Prop}(h:P:=by cases a.testBit i <;> cases b.testBit i <;> rfl):P:=h
theorem XL {P:Prop}(h:P:=by
 obtain⟨u,hu,hru⟩:=hcell _ x (hval i e he j x hx)
 rw[hu];exact hru):P:=h
theorem XM {P:Prop}(h:P:=by
 have d3:L 3=true:=hid 4 _ d4 rfl ⟨3,.data⟩ a7 rfl
 rw[n3] at d3;cases d3):P:=h
theorem XN {P:Prop}(h:P:=by simp only[go_sem,n1,n2]):P:=h
theorem XO {P:Prop}(h:P:=by simp only[go_sem,n1,n2];all_goals rfl):P:=h
theorem XP {P:Prop}(h:P:=by simp only[go_sem]):P:=h
theorem XQ {P:Prop}(h:P:=by simp;omega):P:=h
theorem XR {P:Prop}(h:P:=by simp[upd]):P:=h
theorem XS {P:Prop}(h:P:=by simp only[upd];rw[if_pos trivial]):P:=h
theorem XT {P:Prop}(h:P:=by first|(simp[upd];done)|(simp only[upd];exact nt (hn))):P:=h
theorem XU {P:Prop}(h:P:=by first|(simp[upd];done)|(simp only[upd];exact nt (hu))):P:=h
theorem XV {P:Prop}(h:P:=by simp only[go_sem,n1,n2,bH]):P:=h
theorem XW {P:Prop}(h:P:=by simp only[go_sem,n1,n2,ho]):P:=h
theorem XX {P:Prop}(h:P:=by simp only[go_sem];rfl):P:=h
theorem XY {P:Prop}(h:P:=by simp only[go_sem,n1,n2,o125]):P:=h
theorem XZ {P:Prop}(h:P:=by simp only[go_sem,n1,n2,hg,q0];all_goals rfl):P:=h
theorem X1 {P:Prop}(h:P:=by first|rfl|simp only[go_sem,hg0,bb]):P:=h
theorem X2 {P:Prop}(h:P:=by first|exact hl|((try simp only[am,aj,ao,Emit.jM,Emit.kZ,j4,j6,j7]);omega)):P:=h
theorem X6 {P:Prop}(h:P:=by first|exact hh|((try simp only[am,aj,ao,Emit.jM,Emit.kZ,j4,j6,j7,l8]);omega)):P:=h
theorem X7 {P:Prop}(h:P:=by congr 1;exact congrArg (fun q=>(⟨q,_,_,_,_,_,_⟩:M)) (if_neg h)):P:=h
theorem X8 {P:Prop}(h:P:=by simp only[go_sem];exact bU ho name false):P:=h
theorem X9 {P:Prop}(h:P:=by first|rfl|simp only[go_sem,p3_1,g3_1,bb]):P:=h
theorem Ya {P:Prop}(h:P:=by first|exact hl|((try simp only[am,aj,ao,Emit.jM,Emit.kZ,j4,j6,j7]);omega)):P:=h
theorem Yb {P:Prop}(h:P:=by first|exact hh|((try simp only[am,aj,ao,Emit.jM,Emit.kZ,j4,j6,j7,l8]);omega)):P:=h
theorem Yc {P:Prop}(h:P:=by simp only[go_sem,n1,n2,hg];all_goals rfl):P:=h
theorem Yd {P:Prop}(h:P:=by simp[ho]):P:=h
theorem Ye {P:Prop}(h:P:=by first|omega|(simp only;omega)):P:=h
theorem Yf {P:Prop}(h:P:=by simp[Region.wanted,hg,hy,hw]):P:=h
theorem Yg {P:Prop}(h:P:=by simp only[go_sem];exact bU ho name true):P:=h
theorem Yh {P:Prop}(h:P:=by simp only[St.claimAt];simp only[go_sem]):P:=h
theorem Yi {P:Prop}(h:P:=by first|rfl|simp only[go_sem]):P:=h
theorem Yj {P:Prop}(h:P:=by simp only[aW,j4,j5,j6,j7];omega):P:=h
theorem Yk {P:Prop}(h:P:=by rw[hlc];simp only[j6,j7];omega):P:=h
theorem Yl {P:Prop}(h:P:=by simp only[go_sem,n1,n2,hg,q0]):P:=h
theorem Ym {P:Prop}(h:P:=by simp only[aj,j4,j6,j7];omega):P:=h
theorem Yn {P:Prop}(h:P:=by first|exact hform.2.2.2|(simp[hform.2.2.2])):P:=h
theorem Yo {P:Prop}(h:P:=by first|exact hform.2.2.1|(simp[hform.2.2.1])):P:=h
theorem Yp {P:Prop}(h:P:=by simp[Tryz.ntmps56]):P:=h
theorem Yq {P:Prop}(h:P:=by simp only[aj,l8,j7];omega):P:=h
theorem Yr {P:Prop}(h:P:=by rw[hd];rfl):P:=h
theorem Ys {P:Prop}(h:P:=by simp only[szE,bF];omega):P:=h
theorem Yt {P:Prop}(h:P:=by simp only[go_sem];rw[←hex]):P:=h
theorem Yu {P:Prop}(h:P:=by simp only[St.claimAt];simp only[go_sem,n1,n2]):P:=h
theorem Yv {P:Prop}(h:P:=by first|rfl|simp only[go_sem,p3_2,g3_2,bb]):P:=h
theorem Yw {P:Prop}(h:P:=by first|exact hl|((try simp only[am,aj,ao,Emit.jM,Emit.kZ,j4,j6,j7]);omega)):P:=h
theorem Yx {P:Prop}(h:P:=by first|exact hh|((try simp only[am,aj,ao,Emit.jM,Emit.kZ,j4,j6,j7,l8]);omega)):P:=h
theorem Yy {P:Prop}(h:P:=by simpa using hl):P:=h
theorem Yz {P:Prop}(h:P:=by simp only[go_sem];exact⟨rfl,rfl⟩):P:=h
theorem YA {P:Prop}(h:P:=by simp only[go_sem];exact hR):P:=h
theorem YB {P:Prop}(h:P:=by simp[Region.wanted,hg,hy]):P:=h
theorem YC {P:Prop}(h:P:=by simpa using h):P:=h
theorem YD {P:Prop}(h:P:=by obtain⟨listed,rfl,e1,e2⟩:=h6;exact oY hbk e1 e2):P:=h
theorem YE {P:Prop}(h:P:=by simp only[go_sem,qy];rfl):P:=h
theorem YF {P:Prop}(h:P:=by simpa using hi):P:=h
theorem YG {P:Prop}(h:P:=by simp only[go_sem];exact hfz _ _ (e1 _) (by simp only[upd];(repeat rw[if_neg hmi2.2]);exact hmo1)):P:=h
theorem YH {P:Prop}(h:P:=by simp only[go_sem,q6]):P:=h
theorem YI {P:Prop}(h:P:=by simp only[go_sem,q0]):P:=h
theorem YJ {P:Prop}(h:P:=by rw[ho];rfl):P:=h
theorem YK {P:Prop}(h:P:=by simp[e]):P:=h
theorem YL {P:Prop}(h:P:=by simp only[go_sem,n1,n2,mP]):P:=h
theorem YM {P:Prop}(h:P:=by simp only[go_sem];exact hP):P:=h
theorem YN {P:Prop}(h:P:=by simp only[go_sem];exact hD):P:=h
theorem YO {P:Prop}(h:P:=by simp only[szS,bu,bF];omega):P:=h
theorem YP {P:Prop}(h:P:=by first|rfl|simp only[go_sem,p3_3,g3_3,bb]):P:=h
theorem YQ {P:Prop}(h:P:=by first|exact hl|((try simp only[am,aj,ao,Emit.jM,Emit.kZ,j4,j6,j7]);omega)):P:=h
theorem YR {P:Prop}(h:P:=by first|exact hh|((try simp only[am,aj,ao,Emit.jM,Emit.kZ,j4,j6,j7,l8]);omega)):P:=h
theorem YS {P:Prop}(h:P:=by simp[aE,ho]):P:=h
theorem YT {P:Prop}(h:P:=by simp only[go_sem];rw[←hex];exact yN _):P:=h
theorem YU {P:Prop}(h:P:=by rw[←hsome i'];exact h2):P:=h
theorem YV {P:Prop}(h:P:=by have:=mu hs;omega):P:=h
theorem YW {P:Prop}(h:P:=by rw[←hsome i];exact h1):P:=h
theorem YX {P:Prop}(h:P:=by unfold bH;clear ho hn;induction l with|nil=>rfl|cons a l ih=>simpa using ih):P:=h
theorem YY {P:Prop}(h:P:=by simp only[szS,bu];omega):P:=h
theorem YZ {P:Prop}(h:P:=by simp[hx]):P:=h
theorem Y0 {P:Prop}(h:P:=by rw[h.len];decide):P:=h
theorem Y1 {P:Prop}(h:P:=by omega):P:=h
theorem Y2 {P:Prop}(h:P:=by subst h;rfl):P:=h
theorem Y3 {P:Prop}(h:P:=by rw[hlB];simp only[bj,j5];omega):P:=h
theorem Y4 {P:Prop}(h:P:=by simp only[am,aj,r0]):P:=h
theorem Y5 {P:Prop}(h:P:=by simp[jR]):P:=h
theorem Y6 {P:Prop}(h:P:=by rw[hx];exact hw Bc G D H gG code holes s.gen s.obj S hg hl hhl):P:=h
theorem Y7 {P:Prop}(h:P:=by simp[pack,exV,exD]):P:=h
theorem Y8 {P:Prop}(h:P:=by simp only[go_sem];exact hC):P:=h
theorem Y9 {P:Prop}(h:P:=by simp only[go_sem];exact hS):P:=h
theorem Za {P:Prop}(h:P:=by simp only[go_sem];exact hF):P:=h
theorem Zb {P:Prop}(h:P:=by simp only[go_sem];exact hT):P:=h
theorem Zc {P:Prop}(h:P:=by simp only[go_sem];exact hL):P:=h
theorem Zd {P:Prop}(h:P:=by rintro _ rfl;rfl):P:=h
theorem Ze {P:Prop}(h:P:=by have:=count_set hli;omega):P:=h
theorem Zf {P:Prop}(h:P:=by simp only[aj,j6,j7];omega):P:=h
theorem Zg {P:Prop}(h:P:=by simp only[am,aj,ao,Emit.jM,Emit.kZ,j4,j6,j7,r0,l8,y1]):P:=h
theorem Zh {P:Prop}(h:P:=by cases ho):P:=h
theorem Zi {P:Prop}(h:P:=by simpa using hv2):P:=h
theorem Zj {P:Prop}(h:P:=by rw[A6];exact hu):P:=h
theorem Zk {P:Prop}(h:P:=by simp[pack,smV,smD,ft,aZ]):P:=h
set_option maxHeartbeats 64000000
set_option maxRecDepth 100000
end
end Go
namespace Go.Proofs.YtgiigidgdhplfaaGreatDoor
section
open Go Go.Shelf
def lq:Ren:=⟨fun|171=>50|243=>75|246=>110|283=>104|284=>105|285=>106|286=>107|129=>163|317=>162|318=>164|319=>165|320=>166|337=>195|338=>196|n=>n,fun|3=>3|9=>9|2=>2|4=>4|171=>201|0=>0|53=>111|37=>52|5=>5|173=>204|212=>264|51=>35|20=>20|213=>265|46=>54|232=>299|233=>300|n=>n,fun|17=>2|18=>4|19=>5|n=>n⟩
theorem bA:LaysM.n171 Tryz.prog lq where
 mixed:=c8
 f129:=Tryz.func163.trans (congrArg some c8)
 f171:=Tryz.func50.trans (congrArg some c8)
 f243:=Tryz.func75.trans (congrArg some c8)
 f246:=Tryz.func110.trans (congrArg some c8)
 f283:=Tryz.func104.trans (congrArg some c8)
 f284:=Tryz.func105.trans (congrArg some c8)
 f285:=Tryz.func106.trans (congrArg some c8)
 f286:=Tryz.func107.trans (congrArg some c8)
 f317:=Tryz.func162.trans (congrArg some c8)
 f318:=Tryz.func164.trans (congrArg some c8)
 f319:=Tryz.func165.trans (congrArg some c8)
 f320:=Tryz.func166.trans (congrArg some c8)
 f337:=Tryz.func195.trans (congrArg some c8)
 f338:=Tryz.func196.trans (congrArg some c8)
 t0:=Tryz.underlying0
 a0:=Tryz.isAgg0
 z0:=Tryz.sizeOf0
 v0:=Tryz.zeroValue0
 t2:=Tryz.underlying2
 a2:=Tryz.isAgg2
 z2:=Tryz.sizeOf2
 v2:=Tryz.zeroValue2
 t3:=Tryz.underlying3
 a3:=Tryz.isAgg3
 z3:=Tryz.sizeOf3
 v3:=Tryz.zeroValue3
 t4:=Tryz.underlying4
 a4:=Tryz.isAgg4
 z4:=Tryz.sizeOf4
 v4:=Tryz.zeroValue4
 t5:=Tryz.underlying5
 a5:=Tryz.isAgg5
 z5:=Tryz.sizeOf5
 v5:=Tryz.zeroValue5
 t9:=Tryz.underlying9
 a9:=Tryz.isAgg9
 z9:=Tryz.sizeOf9
 v9:=Tryz.zeroValue9
 t20:=Tryz.underlying20
 a20:=Tryz.isAgg20
 z20:=Tryz.sizeOf20
 v20:=Tryz.zeroValue20
 t37:=Tryz.underlying52
 a37:=Tryz.isAgg52
 z37:=Tryz.sizeOf52
 v37:=Tryz.zeroValue52
 t46:=Tryz.underlying54
 a46:=Tryz.isAgg54
 z46:=Tryz.sizeOf54
 v46:=Tryz.zeroValue54
 t51:=Tryz.underlying35
 a51:=Tryz.isAgg35
 z51:=Tryz.sizeOf35
 v51:=Tryz.zeroValue35
 t53:=Tryz.underlying111
 a53:=Tryz.isAgg111
 z53:=Tryz.sizeOf111
 v53:=Tryz.zeroValue111
 t171:=Tryz.underlying201
 a171:=Tryz.isAgg201
 z171:=Tryz.sizeOf201
 v171:=Tryz.zeroValue201
 t173:=Tryz.underlying204
 a173:=Tryz.isAgg204
 z173:=Tryz.sizeOf204
 v173:=Tryz.zeroValue204
 t212:=Tryz.underlying264
 a212:=Tryz.isAgg264
 z212:=Tryz.sizeOf264
 v212:=Tryz.zeroValue264
 t213:=Tryz.underlying265
 a213:=Tryz.isAgg265
 z213:=Tryz.sizeOf265
 t232:=Tryz.underlying299
 a232:=Tryz.isAgg299
 z232:=Tryz.sizeOf299
 v232:=Tryz.zeroValue299
 t233:=Tryz.underlying300
 a233:=Tryz.isAgg300
 z233:=Tryz.sizeOf300
 v233:=Tryz.zeroValue300
 g17:=c8
 g18:=c8
 g19:=c8
 i0:=c8
 i2:=c8
 i3:=c8
 i4:=c8
 i5:=c8
 i9:=c8
 i20:=c8
 i37:=c8
 i46:=c8
 i51:=c8
 i53:=c8
 i171:=c8
 i173:=c8
 i212:=c8
 i232:=c8
 i233:=c8
 m17:=c8
 m18:=c8
 m19:=c8
end
end Go.Proofs.YtgiigidgdhplfaaGreatDoor
namespace Go.Am
section
theorem ite_cc {α:Sort _} {b c:Prop} [Decidable b] [Decidable c] {x y:α} (h:b=c):ite b x y=ite c x y:=by subst h;congr
attribute [go_sem] reduceIte
end
section
attribute [local congr] Go.Am.ite_cc
section
inductive D where
 |bool (b:Bool)
 |int (k:IntKind) (n:Int)
 |str (s:List UInt8)
 |sl (es:List (List D))
 |nsl
 |nilp
 |nilf
 |nili
 |nilm
 |fn (f:FuncId)
 |iptr (cs:List D)
 |yld (l:Nat)
 deriving Inhabited
inductive PC where
 |d (x:D)
 |ptr (id g off:Nat)
 deriving Inhabited
inductive C where
 |d (x:D)
 |osl (id g sz off len:Nat)
 |ptr (id g off:Nat)
 |clo (f:FuncId) (caps:List PC)
 |mp (id g kd:Nat)
 |lsl (n:Nat)
 |raw (o:Obj)
 deriving Inhabited
inductive AV where
 |one (c:C)
 |agg (cs:List C)
 |tup (vs:List AV)
 |junk
 |exact(v:Value)
 deriving Inhabited
structure St where
 f:Nat→AV
 gen:Nat→Nat
 obj:Nat→Option (List C)
inductive Box {α:Type} (a:α):Type where
 |mk
@[reducible] def bx {α:Type} (a:α):Box a:=.mk
def upd {α:Type} (f:Nat→α) (i:Nat) (v:α):Nat→α:=fun j=>if j=i then v else f j
structure TI where
 desc:TypeDesc
 size:Nat
 bytes:Nat
 zero:List D
 deriving Inhabited
abbrev iv (k:IntKind) (n:Int):AV:=.one (.d (.int k n))
abbrev bv (b:Bool):AV:=.one (.d (.bool b))
abbrev sv (s:List UInt8):AV:=.one (.d (.str s))
abbrev uv:AV:=.tup []
def UI:Value→C
 |.bool b=>.d (.bool b)
 |.int k n=>.d (.int k n)
 |.string s=>.d (.str s.data.toList)
 |.slice none 0 0=>.d .nsl
 |.pointer none=>.d .nilp
 |.nilFunc=>.d .nilf
 |.nilIface=>.d .nili
 |.map none=>.d .nilm
 |_=>.osl 0 0 0 0 0
def sP:Value→AV
 |.bool b=>.one (.d (.bool b))
 |.int k n=>.one (.d (.int k n))
 |.string s=>.one (.d (.str s.data.toList))
 |.slice none 0 0=>.one (.d .nsl)
 |.pointer none=>.one (.d .nilp)
 |.nilFunc=>.one (.d .nilf)
 |.nilIface=>.one (.d .nili)
 |.map none=>.one (.d .nilm)
 |_=>.junk
def St.ev (s:St):Operand→AV
 |.tmp t=>s.f t
 |.const v=>sP v
 |.global _=>.junk
 |.func f=>.one (.d (.fn f))
def St.put (s:St) (dst:Option Nat) (v:AV):St:=
 match dst with
 |none=>s
 |some d=>{ s with f:=upd s.f d v }
def nxC (c g:Nat):Nat:=1000000*(g+1)+(if c<1000000 then c else 0)
def code (g:Nat):Nat:=g%1000000
theorem uI (c g:Nat):g<nxC c g:=by unfold nxC;omega
theorem yb (c g:Nat):nxC c g≠g:=Nat.ne_of_gt (uI c g)
theorem ge (c g:Nat):code (nxC c g)=if c<1000000 then c else 0:=by
 unfold code nxC;rw[Nat.mul_add_mod];split
 ·rename_i h;exact M6 h
 ·rfl
def apC (e g off:Nat):Nat:=if code g=e+1∧off=0 then e+1 else 0
def St.newC (c:Nat) (s:St) (d:Nat) (cs:List C):St:={ s with gen:=upd s.gen d (nxC c (s.gen d)),obj:=upd s.obj d (some cs)}
def cK:TypeDesc→Bool
 |.struct _|.array _ _=>true
 |_=>false
def cellsOf:AV→Option (List C)
 |.one c=>some [c]
 |.agg cs=>some cs
 |_=>none
def setAt (cells:List C) (off:Nat):List C→List C
 |[]=>cells
 |c::cs=>setAt (cells.set off c) (off+1) cs
def iz (b:UInt8):D:=.int .u8 b.toNat
def gf (b:Bool) {K:Bool→Prop} (_:Box K):Prop:=(b=true→K true)∧(b=false→K false)
def aK {α:Type} (x:Option α) {K:α→Prop} (_:Box K):Prop:=
 match x with
 |some a=>K a
 |none=>False
def nn (v:AV) {K:Bool→Prop} (k:Box K):Prop:=
 match v with
 |.one (.d (.bool b))=>gf b k
 |_=>False
def kI (v:AV) {K:Bool→Prop} (k:Box K) {U:Prop} (_:Box U):Prop:=
 match v with
 |.one (.d (.bool b))=>gf b k
 |.tup []=>U
 |_=>False
def qS (ti:TI) (cells:List C) (off:Nat) {K:AV→Prop} (_:Box K):Prop:=
 match cK ti.desc with
 |true=>off+ti.size≤cells.length∧K (.agg ((cells.drop off).take ti.size))
 |false=>aK (cells[off]?) (bx fun c=>K (.one c))
def zF (ti:TI) (cs:List D) {K:AV→Prop} (_:Box K):Prop:=
 match cK ti.desc with
 |true=>ti.size≤cs.length∧K (.agg ((cs.take ti.size).map .d))
 |false=>aK (cs[0]?) (bx fun c=>K (.one (.d c)))
def okD:TypeDesc→Bool
 |.invalid=>false
 |_=>true
def pT (ti:TI) (s:St) (a:AV) {K:AV→Prop} (k:Box K):Prop:=
 match a with
 |.one (.ptr id g off)=>okD ti.desc=true∧s.gen id=g∧aK (s.obj id) (bx fun cells=>qS ti cells off k)
 |.one (.d (.iptr cs))=>okD ti.desc=true∧zF ti cs k
 |_=>False
def np (ti:TI) (s:St) (a x:AV) {K:St→Prop} (_:Box K):Prop:=
 match a with
 | .one (.ptr id g off)=>okD ti.desc=true∧s.gen id=g∧aK (cellsOf x) (bx fun cs=>cs.length=ti.size∧aK (s.obj id) (bx fun cells=>off+cs.length≤cells.length∧
     K { s with obj:=upd s.obj id (some (setAt cells off cs))}))
 |_=>False
def fG (s:St) (sz:Nat) (x ix:AV) {K:AV→Prop} (_:Box K):Prop:=
 match ix with
 |.one (.d (.int _ i))=>
   match x with
   |.one (.d (.sl es))=>0≤i∧aK (es[i.toNat]?) (bx fun c=>c.length=sz∧K (.one (.d (.iptr c))))
   |.one (.osl id g sz' off len)=>s.gen id=g∧(s.obj id).isSome=true∧0≤i∧i<len∧sz'=sz∧K (.one (.ptr id g (off+i.toNat*sz)))
   |_=>False
 |_=>False
def ka (T:Nat→TI) (d:TypeDesc) (s:St) (x ix:AV) {K:AV→Prop} (_:Box K):Prop:=
 match d with
 |.array n e=>
   match ix with
   |.one (.d (.int _ i))=>
     match x with
     |.one (.ptr id g off)=>s.gen id=g∧(s.obj id).isSome=true∧okD (T e).desc=true∧0≤i∧i<n∧K (.one (.ptr id g (off+i.toNat*(T e).size)))
     |_=>False
   |_=>False
 |_=>False
def lM (d:TypeDesc):Bool:=match d with|.array _ _=>true|_=>false
def qT (x ix:AV) {K:AV→Prop} (_:Box K):Prop:=
 match ix with
 |.one (.d (.int _ i))=>
   match x with
   |.one (.d (.str s))=>0≤i∧aK (s[i.toNat]?) (bx fun c=>K (iv .u8 c.toNat))
   |_=>False
 |_=>False
def kJ (op:BinOp) (k:IntKind) (x y:Int) {K:AV→Prop} (_:Box K):Prop:=
 match op with
 |.add=>K (iv k (k.wrap (x+y)))
 |.sub=>K (iv k (k.wrap (x-y)))
 |.mul=>K (iv k (k.wrap (x*y)))
 |.quo=>y≠0∧K (iv k (k.wrap (x.tdiv y)))
 |.rem=>y≠0∧K (iv k (x.tmod y))
 |.eql=>K (bv (decide (x=y)))
 |.neq=>K (bv (decide (x≠y)))
 |.lss=>K (bv (decide (x<y)))
 |.leq=>K (bv (decide (x≤y)))
 |.gtr=>K (bv (decide (y<x)))
 |.geq=>K (bv (decide (y≤x)))
 |.and=>K (iv k (k.wrap (BitVec.ofInt k.bits x &&&BitVec.ofInt k.bits y).toNat))
 |.or=>K (iv k (k.wrap (BitVec.ofInt k.bits x |||BitVec.ofInt k.bits y).toNat))
 |.xor=>K (iv k (k.wrap (BitVec.ofInt k.bits x ^^^ BitVec.ofInt k.bits y).toNat))
 |.andNot=>K (iv k (k.wrap (BitVec.ofInt k.bits x &&& ~~~ BitVec.ofInt k.bits y).toNat))
 |.shl=>0≤y∧K (iv k (k.wrap (x*2^(min y.toNat k.bits))))
 |.shr=>0≤y∧K (iv k (x.fdiv (2^(min y.toNat k.bits))))
def yc (op:BinOp) (x y:List UInt8) {K:AV→Prop} (_:Box K):Prop:=
 match op with
 |.add=>((x.length+y.length:Nat):Int)≤9223372036854775807∧K (sv (x++y))
 |.eql=>K (bv (decide (x=y)))
 |.neq=>K (bv (decide (x≠y)))
 |.lss=>K (bv (Op.bytesLess x y))
 |.leq=>K (bv (Op.bytesLess x y||decide (x=y)))
 |.gtr=>K (bv (!(Op.bytesLess x y||decide (x=y))))
 |.geq=>K (bv (!Op.bytesLess x y))
 |_=>False
def sameKind (op:BinOp) (k k':IntKind):Prop:=
 match op with
 |.shl|.shr=>True
 |_=>k=k'
def Ov (d:TypeDesc) (op:BinOp) (x y:Bool) {K:AV→Prop} (_:Box K):Prop:=
 match d,op with
 |.bool,.eql=>K (bv (decide (x=y)))
 |.bool,.neq=>K (bv (decide (x≠y)))
 |_,_=>False
def tA (k:IntKind):List C→Option (List Int)
 |[]=>some []
 |.d (.int k' n)::r=>if k'=k then(tA k r).map (n :: ·) else none
 |_=>none
def Gy (ti:TI) (n:Nat) (xs ys:List C) {K:Bool→Prop} (_:Box K):Prop:=
 match ti.desc with
 |.int k=>ti.size=1∧aK (tA k xs) (bx fun a=>aK (tA k ys) (bx fun b=>(a.length=n∧b.length=n)∧K (decide (a=b))))
 |_=>False
def Ow (T:Nat→TI) (d:TypeDesc) (op:BinOp) (xs ys:List C) {K:AV→Prop} (_:Box K):Prop:=
 match d,op with
 |.array n e,.eql=>Gy (T e) n xs ys (bx fun b=>K (bv b))
 |.array n e,.neq=>Gy (T e) n xs ys (bx fun b=>K (bv (!b)))
 |_,_=>False
def Ba (T:Nat→TI) (d:TypeDesc) (op:BinOp) (x y:AV) {K:AV→Prop} (k:Box K):Prop:=
 match x,y with
 |.one (.d (.int k1 a)),.one (.d (.int k2 b))=>sameKind op k1 k2∧kJ op k1 a b k
 |.one (.d (.str a)),.one (.d (.str b))=>yc op a b k
 |.one (.d (.bool a)),.one (.d (.bool b))=>Ov d op a b k
 |.agg xs,.agg ys=>Ow T d op xs ys k
 |_,_=>False
def unA (op:UnOp) (x:AV) {K:AV→Prop} (_:Box K):Prop:=
 match op,x with
 |.not,.one (.d (.bool b))=>K (bv (!b))
 |.neg,.one (.d (.int k n))=>K (iv k (k.wrap (0-n)))
 |_,_=>False
def contents (s:St) (str sl:Bool) (sz:Nat) (x:AV) {K:Nat→List C→Prop} (_:Box K):Prop:=
 match x with
 |.one (.d .nsl)=>sl=true∧K 0 []
 |.one (.d (.sl es))=>sl=true∧(∀e∈es,e.length=sz)∧K es.length (es.flatten.map .d)
 |.one (.d (.str bs))=>str=true∧sz=1∧K bs.length (bs.map fun b=>.d (iz b))
 |.one (.osl id g sz' off len)=>sl=true∧s.gen id=g∧sz'=sz∧aK (s.obj id) (bx fun cells=>off+len*sz≤cells.length∧K len ((cells.drop off).take (len*sz)))
 |_=>False
def u8s:List C→Option (List Int)
 |[]=>some []
 |.d (.int .u8 n)::r=>(u8s r).map (n :: ·)
 |_=>none
def uJ:TypeDesc→Bool
 |.int .u8=>true
 |_=>false
def pU (s:St) (el:TypeDesc) (src dst:TypeDesc) (x:AV) {K:AV→Prop} (_:Box K):Prop:=
 match src,dst,x with
 |sr,.int k,.one (.d (.int _ n))=>okD sr=true∧K (iv k (k.wrap n))
 |.string,.string,.one (.d (.str b))=>K (sv b)
 |.slice _,.string,y=>uJ el=true∧contents s false true 1 y (bx fun _ cs=>aK (u8s cs) (bx fun ns=>K (sv (ns.map fun n=>UInt8.ofNat n.toNat))))
 |_,_,_=>False
def qU (n bytes:Nat):Prop:=0<bytes∧(2*n+1024)*bytes≤281474976710656
def kK (e:Nat) (ti:TI) (str sl:Bool) (i d:Nat) (s:St) (x y:AV) {K:St→Prop} (_:Box K):Prop:=
 match x with
 |.one (.d .nsl)=>contents s str sl ti.size y (bx fun n cs=>qU n ti.bytes∧K ((s.newC (e+1) i cs).put (some d) (.one (.osl i (nxC (e+1) (s.gen i)) ti.size 0 n))))
 | .one (.osl id g sz off len)=>s.gen id=g∧sz=ti.size∧aK (s.obj id) (bx fun cells=>off+len*sz≤cells.length∧
    contents s str sl ti.size y (bx fun n cs=>qU (len+n) ti.bytes∧
     K ((s.newC (apC e (s.gen id) off) id ((cells.drop off).take (len*sz)++cs)).put (some d) (.one (.osl id (nxC (apC e (s.gen id) off) (s.gen id)) ti.size 0 (len+n))))))
 |_=>False
def uK (s:St) (str sl:Bool) (x:AV) {K:AV→Prop} (_:Box K):Prop:=
 match x with
 |.one (.d .nsl)=>sl=true∧K (iv .i64 0)
 |.one (.d (.sl es))=>sl=true∧K (iv .i64 es.length)
 |.one (.d (.str bs))=>str=true∧K (iv .i64 bs.length)
 |.one (.osl id g _ _ len)=>sl=true∧s.gen id=g∧(s.obj id).isSome=true∧K (iv .i64 len)
 |.one (.lsl n)=>sl=true∧K (iv .i64 n)
 |_=>False
def eJ (o:Option AV) (els:Nat) {K:Nat→Prop} (_:Box K):Prop:=
 match o with
 |none=>K els
 |some (.one (.d (.int _ n)))=>0≤n∧K n.toNat
 |_=>False
def nq (s:St) (str sl:Bool) (sz:Nat) (x:AV) (lo hi:Option AV) {K:AV→Prop} (_:Box K):Prop:=
 match x with
 |.one (.d (.str bs))=>str=true∧eJ hi bs.length (bx fun h=>eJ lo 0 (bx fun l=>l≤h∧h≤bs.length∧K (sv ((bs.take h).drop l))))
 |.one (.d (.sl es))=>sl=true∧eJ hi es.length (bx fun h=>eJ lo 0 (bx fun l=>l≤h∧h≤es.length∧(∀x∈es,x.length=sz)∧K (.one (.d (.sl ((es.take h).drop l))))))
 |.one (.d .nsl)=>sl=true∧eJ hi 0 (bx fun h=>eJ lo 0 (bx fun l=>l=0∧h=0∧K (.one (.d .nsl))))
 |.one (.osl id g sz' off len)=>sl=true∧s.gen id=g∧(s.obj id).isSome=true∧eJ hi len (bx fun h=>eJ lo 0 (bx fun l=>l≤h∧h≤len∧sz'=sz∧K (.one (.osl id g sz (off+l*sz) (h-l)))))
 |_=>False
def uL (o:Option (List C)) (n:Nat):Prop:=∃l,o=some l∧n≤l.length
def jg (T:Nat→TI) (d:TypeDesc) (s:St) (x:AV) (lo hi:Option AV) {K:AV→Prop} (_:Box K):Prop:=
 match d with
 |.array n e=>
   match x with
   |.one (.ptr id g off)=>
     match lo with
     |none=>s.gen id=g∧okD (T e).desc=true∧uL (s.obj id) (off+n*(T e).size)∧eJ hi n (bx fun h=>h≤n∧K (.one (.osl id g (T e).size off h)))
     |_=>False
   |_=>False
 |_=>False
def vR (sz:Nat):(k:Nat)→(ps:List (Nat×AV))→{K:List C→Prop}→Box K→Prop
 |_,[],K,_=>K []
 |k,p::r,K,_=>p.1=k∧aK (cellsOf p.2) (bx fun cs=>cs.length=sz∧vR sz (k+1) r (bx fun rest=>K (cs++rest)))
def iA (e sz i d n:Nat) (s:St) (ps:List (Nat×AV)) {K:St→Prop} (_:Box K):Prop:=
 ps.length=n∧n*sz≤16777216∧vR sz 0 ps (bx fun cs=>K ((s.newC (e+1) i cs).put (some d) (.one (.osl i (nxC (e+1) (s.gen i)) sz 0 n))))
def fB (d:TypeDesc) (f:Nat):Option Field:=
 match d with
 |.struct fs=>fs[f]?
 |_=>none
def fH (T:Nat→TI) (t f:Nat) (s:St) (x:AV) {K:AV→Prop} (_:Box K):Prop:=
 match x with
 |.one (.ptr id g off)=>s.gen id=g∧(s.obj id).isSome=true∧aK (fB (T t).desc f) (bx fun fl=>(okD (T fl.type).desc=true∧(T fl.type).size≠0)∧K (.one (.ptr id g (off+fl.offset))))
 |.one (.d (.iptr cs))=>aK (fB (T t).desc f) (bx fun fl=>(okD (T fl.type).desc=true∧(T fl.type).size≠0)∧K (.one (.d (.iptr (cs.drop fl.offset)))))
 |_=>False
def oW (T:Nat→TI) (t f:Nat) (x:AV) {K:AV→Prop} (k:Box K):Prop:=
 match x with
 |.agg cs=>aK (fB (T t).desc f) (bx fun fl=>okD (T fl.type).desc=true∧qS (T fl.type) cs fl.offset k)
 |_=>False
def pV (pl:Nat→Option (Nat×Nat)):(cells:List C)→(ps:List (Nat×AV))→{K:List C→Prop}→Box K→Prop
 |cells,[],K,_=>K cells
 |cells,p::r,_,k=>aK (pl p.1) (bx fun q=>aK (cellsOf p.2) (bx fun cs=>cs.length=q.2∧q.1+q.2≤cells.length∧pV pl (setAt cells q.1 cs) r k))
def placeOf (T:Nat→TI) (d:TypeDesc) (i:Nat):Option (Nat×Nat):=
 match d with
 |.array _ e=>some (i*(T e).size,(T e).size)
 |d=>(fB d i).bind fun fl=>bif okD (T fl.type).desc then some (fl.offset,(T fl.type).size) else none
def eW (T:Nat→TI) (t:Nat):Bool:=match (T t).desc with|.struct fs=>fs.toList.all fun f=>okD (T f.type).desc|.array _ e=>okD (T e).desc|_=>false
def da (T:Nat→TI) (t:Nat) (ps:List (Nat×AV)) {K:AV→Prop} (_:Box K):Prop:=
 eW T t=true∧pV (placeOf T (T t).desc) ((T t).zero.map .d) ps (bx fun cs=>K (.agg cs))
def Gz (t i d:Nat) (s:St) (x:AV) {K:St→Prop} (_:Box K):Prop:=
 aK (cellsOf x) (bx fun cs=>K ((s.newC (t+1) i cs).put (some d) (.one (.ptr i (nxC (t+1) (s.gen i)) 0))))
def uM (t:Nat) (ti:TI) (i d:Nat) (s:St) {K:St→Prop} (_:Box K):Prop:=
 okD ti.desc=true∧K ((s.newC (t+1) i (ti.zero.map .d)).put (some d) (.one (.ptr i (nxC (t+1) (s.gen i)) 0)))
def gZ (s:St) (x:AV) {K:AV→Prop} (_:Box K):Prop:=
 match x with
 |.one (.ptr id g off)=>s.gen id=g∧(s.obj id).isSome=true∧K (.one (.ptr id g off))
 |.one (.d (.iptr cs))=>K (.one (.d (.iptr cs)))
 |_=>False
def lN (x:AV) (i:Nat) {K:AV→Prop} (k:Box K):Prop:=
 match x with
 |.tup ts=>aK (ts[i]?) k
 |_=>False
def mxA (mx:Bool) (x y:AV) {K:AV→Prop} (_:Box K):Prop:=
 match x,y with
 |.one (.d (.int k a)),.one (.d (.int _ b))=>K (iv k (if mx then max a b else min a b))
 |_,_=>False
def hY (e:Nat) (ti:TI) (i d:Nat) (s:St) (l c:AV) {K:St→Prop} (_:Box K):Prop:=
 match l,c with
 |.one (.d (.int _ n)),.one (.d (.int _ m))=>0≤n∧n≤m∧m≤4611686018427387904∧m*ti.bytes≤281474976710656∧
    K ((s.newC (e+1) i (List.replicate m.toNat (ti.zero.map C.d)).flatten).put (some d) (.one (.osl i (nxC (e+1) (s.gen i)) ti.size 0 n.toNat)))
 |_,_=>False
def cH:Nat→TypeDesc
 |0=>.int .i8|1=>.int .i16|2=>.int .i32|3=>.int .i64|4=>.int .u8|5=>.int .u16|6=>.int .u32|7=>.int .u64
 |8=>.string
 |9=>.bool
 |_=>.invalid
def jb:TypeDesc→Nat
 |.int .i8=>0|.int .i16=>1|.int .i32=>2|.int .i64=>3|.int .u8=>4|.int .u16=>5|.int .u32=>6|.int .u64=>7
 |.string=>8
 |_=>9
def ff:TypeDesc→D→Bool
 |.int k,.int k' _=>k'=k
 |.string,.str _=>true
 |.bool,.bool _=>true
 |_,_=>false
def iV:D→D→Bool
 |.int k n,.int k' n'=>k=k'&&n=n'
 |.str s,.str s'=>s=s'
 |.bool b,.bool b'=>b=b'
 |_,_=>false
def mget:List C→D→Option C
 |.d k'::c::r,k=>if iV k' k then some c else mget r k
 |_,_=>none
def mset:List C→D→C→List C
 |.d k'::c::r,k,x=>if iV k' k then .d k'::x::r else .d k'::c::mset r k x
 |_,k,x=>[.d k,x]
def tB (agg:Bool) (n:Nat):Nat:=match agg with|true=>200+n|false=>n
def kc (T:Nat→TI) (t i d:Nat) (s:St) {K:St→Prop} (_:Box K):Prop:=
 match (T t).desc with
 |.map kt et=>cH (jb (T kt).desc)=(T kt).desc∧K ((s.newC 0 i []).put (some d) (.one (.mp i (nxC 0 (s.gen i)) (tB (cK (T et).desc) (jb (T kt).desc)))))
 |_=>False
def pW (ok:Bool) (z:D) (c:Option C):AV:=if ok then .tup [.one (c.getD (.d z)),bv c.isSome] else .one (c.getD (.d z))
def vS (ti:TI) {K:D→Prop} (_:Box K):Prop:=
 match ti.zero with
 |[z]=>(okD ti.desc=true∧cK ti.desc=false)∧K z
 |_=>False
def sQ (z:List D):Option C→List D
 |some (.d (.iptr ds))=>ds
 |_=>z
def kL (ok:Bool) (z:List D) (c:Option C):AV:=match ok with|true=>.tup [.agg ((sQ z c).map .d),bv c.isSome]|false=>.agg ((sQ z c).map .d)
def vT (ti:TI) {K:List D→Prop} (_:Box K):Prop:=(okD ti.desc=true∧2≤ti.zero.length)∧K ti.zero
def kM (T:Nat→TI) (t:Nat) (s:St) (x ix:AV) (ok:Bool) {K:AV→Prop} (_:Box K):Prop:=
 match (T t).desc,ix with
 |.map kt et,.one (.d k)=>(okD (T kt).desc=true∧ff (T kt).desc k=true)∧
   match cK (T et).desc with
   | false=>vS (T et) (bx fun z=>
     match x with
     |.one (.mp id g kd)=>s.gen id=g∧cH kd=(T kt).desc∧aK (s.obj id) (bx fun cells=>K (pW ok z (mget cells k)))
     |.one (.d .nilm)=>K (pW ok z none)
     | _=>False)
   | true=>vT (T et) (bx fun z=>
     match x with
     |.one (.mp id g kd)=>s.gen id=g∧(200≤kd∧cH (kd-200)=(T kt).desc)∧aK (s.obj id) (bx fun cells=>K (kL ok z (mget cells k)))
     |.one (.d .nilm)=>K (kL ok z none)
     | _=>False)
 |_,_=>False
def datas:List C→Option (List D)
 |[]=>some []
 |.d x::r=>(datas r).map (x :: ·)
 |_=>none
def dr (T:Nat→TI) (t:Nat) (s:St) (m ix x:AV) {K:St→Prop} (_:Box K):Prop:=
 match (T t).desc,ix,m,x with
 |.map kt _,.one (.d k),.one (.mp id g kd),.one c=>(okD (T kt).desc=true∧ff (T kt).desc k=true)∧s.gen id=g∧cH kd=(T kt).desc∧aK (s.obj id) (bx fun cells=>K { s with obj:=upd s.obj id (some (mset cells k c))})
 |.map kt _,.one (.d k),.one (.mp id g kd),.agg cs=>(okD (T kt).desc=true∧ff (T kt).desc k=true)∧s.gen id=g∧(200≤kd∧cH (kd-200)=(T kt).desc)∧aK (datas cs) (bx fun ds=>aK (s.obj id) (bx fun cells=>K { s with obj:=upd s.obj id (some (mset cells k (.d (.iptr ds))))}))
 |_,_,_,_=>False
def Bb:AV→Option PC
 |.one (.d x)=>some (.d x)
 |.one (.ptr id g off)=>some (.ptr id g off)
 |_=>none
def ke:List AV→Option (List PC)
 |[]=>some []
 |x::xs=>(Bb x).bind fun p=>(ke xs).bind fun ps=>some (p::ps)
def ie (f:FuncId) (first caps:List AV) {K:AV→Prop} (_:Box K):Prop:=
 match first with
 |[]=>f<1000000∧aK (ke caps) (bx fun l=>K (.one (.clo f l)))
 |x::r=>caps=[]∧aK (ke (x::r)) (bx fun l=>K (.one (.clo (f+1000000) l)))
def aC (T:Nat→TI) (t:Nat):Nat:=
 match (T t).desc with
 |.slice e=>e
 |_=>0
def aL (T:Nat→TI) (t:Nat):TI:=
 match (T t).desc with
 |.slice e=>T e
 |_=>default
def qV (s:St) (c:Call) (i:Nat):AV:=s.ev (c.args.getD i (.const .nilFunc))
structure Sp where
 op:Oper→St→(St→Prop)→Prop
 code:Code→St→(Exit→St→Prop)→Prop
 vs:St→St→Prop
 base:Nat
def aR (S:Sp) (o:Oper) (s:St) {K:St→Prop} (_:Box K):Prop:=∃R,S.op o s R∧∀s',R s'→K s'
def Js (S:Sp) (c:Code) (s:St) {Q:Exit→St→Prop} (_:Box Q):Prop:=∃R,S.code c s R∧∀e s',R e s'→Q e s'
def isSlice (d:TypeDesc):Bool:=match d with|.slice _=>true|_=>false
def dt (T:Nat→TI):Op→Bool
 |.indexAddr _ x _=>match x with|.global _=>false|_=>true
 |.move _|.assign _|.pick .. | .load .. | .index .. | .binOp .. | .unOp .. | .slice _ _ _ _ none|.fieldAddr .. | .field .. | .build .. | .nilCheck _|.extract .. | .lookup .. | .makeFunc (.func _) _ _=>true
 |.convert _ d _=>!isSlice (T d).desc
 |.call c=>match c.callee with|.builtin .len|.builtin .max|.builtin .min=>true|_=>false
 |_=>false
def lO (T:Nat→TI) (ops:Array Oper):Bool:=
 (ops.toList.all (dt T ·.op)&&Region.lexB .any ops) ||
 [1,2,3,4].any fun k=>(ops.toList.take (ops.size-k)).all (dt T ·.op)&&Region.lexTailB .any ops (ops.size-k)
def isStr (d:TypeDesc):Bool:=match d with|.string=>true|_=>false
def cr (T:Nat→TI) (t:Nat):Bool:=isSlice (T t).desc&&okD (aL T t).desc
def kN (T:Nat→TI) (src d base:Nat) (dst:Option Nat) (s:St) (x:AV) {K:St→Prop} (_:Box K):Prop:=
 match dst,x with
 |some dd,.one (.d (.str bs))=>isStr (T src).desc=true∧uJ (aL T d).desc=true∧K ((s.newC (aC T d+1) (base+dd) (bs.map fun b=>.d (iz b))).put (some dd) (.one (.osl (base+dd) (nxC (aC T d+1) (s.gen (base+dd))) 1 0 bs.length)))
 |_,_=>False
def Ox (S:Sp) (T:Nat→TI) (o:Oper) (c:Call) (s:St) {K:St→Prop} (k:Box K):Prop:=
 match c.callee,o.dst with
 |.builtin .len,dst=>(c.args.size=1∧c.argTypes.size=1)∧uK s (isStr (T (c.argTypes.getD 0 0)).desc) (cr T (c.argTypes.getD 0 0)) (qV s c 0) (bx fun v=>K (s.put dst v))
 |.builtin .max,dst=>c.args.size=2∧mxA true (qV s c 0) (qV s c 1) (bx fun v=>K (s.put dst v))
 |.builtin .min,dst=>c.args.size=2∧mxA false (qV s c 0) (qV s c 1) (bx fun v=>K (s.put dst v))
 |.builtin .append,some d=>(c.args.size=2∧c.argTypes.size=2)∧cr T (c.argTypes.getD 0 0)=true∧kK (aC T (c.argTypes.getD 0 0)) (aL T (c.argTypes.getD 0 0)) (isStr (T (c.argTypes.getD 1 0)).desc) (cr T (c.argTypes.getD 1 0)) (S.base+d) d s (qV s c 0) (qV s c 1) k
 |_,_=>aR S o s k
def opA (S:Sp) (T:Nat→TI) (o:Oper) (s:St) {K:St→Prop} (k:Box K):Prop:=
 match o.op,o.dst with
 |.move x,dst=>K (s.put dst (s.ev x))
 |.assign x,dst=>K (s.put dst (s.ev x))
 |.pick c a b,dst=>nn (s.ev c) (bx fun t=>K (s.put dst (if t then s.ev a else s.ev b)))
 |.load t a,dst=>pT (T t) s (s.ev a) (bx fun v=>K (s.put dst v))
 |.store t a x,dst=>np (T t) s (s.ev a) (s.ev x) (bx fun s'=>K (s'.put dst uv))
 |.indexAddr t x ix,dst=>match x with
   |.global _=>aR S o s k
   |x=>bif lM (T t).desc then ka T (T t).desc s (s.ev x) (s.ev ix) (bx fun v=>K (s.put dst v)) else cr T t=true∧fG s (aL T t).size (s.ev x) (s.ev ix) (bx fun v=>K (s.put dst v))
 |.index t x ix,dst=>isStr (T t).desc=true∧qT (s.ev x) (s.ev ix) (bx fun v=>K (s.put dst v))
 |.binOp op t x y _,dst=>Ba T (T t).desc op (s.ev x) (s.ev y) (bx fun v=>K (s.put dst v))
 |.unOp op _ x,dst=>unA op (s.ev x) (bx fun v=>K (s.put dst v))
 |.convert src d x,dst=>bif isSlice (T d).desc then kN T src d S.base dst s (s.ev x) k else pU s (aL T src).desc (T src).desc (T d).desc (s.ev x) (bx fun v=>K (s.put dst v))
 |.slice t x lo hi none,dst=>bif lM (T t).desc then jg T (T t).desc s (s.ev x) (lo.map s.ev) (hi.map s.ev) (bx fun v=>K (s.put dst v)) else nq s (isStr (T t).desc) (cr T t) (aL T t).size (s.ev x) (lo.map s.ev) (hi.map s.ev) (bx fun v=>K (s.put dst v))
 |.buildSlice t n ps,some d=>cr T t=true∧iA (aC T t) (aL T t).size (S.base+d) d n s (ps.toList.map fun p=>(p.1,s.ev p.2)) k
 |.makeSlice t l c,some d=>cr T t=true∧hY (aC T t) (aL T t) (S.base+d) d s (s.ev l) (s.ev c) k
 |.fieldAddr t x f,dst=>fH T t f s (s.ev x) (bx fun v=>K (s.put dst v))
 |.field t x f,dst=>oW T t f (s.ev x) (bx fun v=>K (s.put dst v))
 |.build t ps,dst=>da T t (ps.toList.map fun p=>(p.1,s.ev p.2)) (bx fun v=>K (s.put dst v))
 |.nilCheck x,dst=>gZ s (s.ev x) (bx fun v=>K (s.put dst v))
 |.extract x i,dst=>lN (s.ev x) i (bx fun v=>K (s.put dst v))
 |.box t x,some d=>Gz t (S.base+d) d s (s.ev x) k
 |.alloc t,some d=>uM t (T t) (S.base+d) d s k
 |.makeMap t none,some d=>kc T t (S.base+d) d s k
 |.lookup t x ix ok,dst=>kM T t s (s.ev x) (s.ev ix) ok (bx fun v=>K (s.put dst v))
 |.mapUpdate t m ix x,dst=>dr T t s (s.ev m) (s.ev ix) (s.ev x) (bx fun s'=>K (s'.put dst uv))
 |.makeFunc (.func f) first caps,dst=>ie f (first.toList.map s.ev) (caps.toList.map s.ev) (bx fun v=>K (s.put dst v))
 |.call c,_=>Ox S T o c s k
 |_,_=>aR S o s k
def wpO (S:Sp) (T:Nat→TI) (ops:Array Oper):List Oper→(s:St)→{K:St→Prop}→(k:Box K)→Prop
 |[],s,K,_=>K s
 |o::rest,s,K,k=>
   match o.guard with
   |none=>opA S T o s (bx fun s'=>wpO S T ops rest s' k)
   |some (j,want)=>
     aK ((ops[j]?).bind (·.dst)) (bx fun d=>
      kI (s.f d) (bx fun b=>if b=want then opA S T o { s with f:=upd s.f d (bv b)} (bx fun s'=>wpO S T ops rest s' k)
       else wpO S T ops rest ({ s with f:=upd s.f d (bv b)}.put o.dst uv) k) (bx (wpO S T ops rest (s.put o.dst uv) k)))
def kf {next:St→Prop} (_:Box next) {Q:Exit→St→Prop} (_:Box Q):Exit→St→Prop
 |.normal,s=>next s
 |e,s=>Q e s
def gg (id:Nat) {Q:Exit→St→Prop} (_:Box Q):Exit→St→Prop
 |.exit id',s=>if id'=id then Q .normal s else Q (.exit id') s
 |e,s=>Q e s
def qW (S:Sp) {B:(Exit→St→Prop)→St→Prop} (_:Box B) {Q:Exit→St→Prop} (q:Box Q) (s:St):Prop:=
 ∃I:Nat→St→Prop,(∃n s₁,S.vs s s₁∧I n s₁)∧∀n s,I n s→B (kf (bx fun s'=>∃n' s₁,n'<n∧S.vs s' s₁∧I n' s₁) q) s
def nP {Q:Exit→St→Prop} (_:Box Q):Exit→St→Prop
 |.goto _,_=>False
 |e,s=>Q e s
def iB (S:Sp) (T:Nat→TI) (id:Nat) (ops:Array Oper) (s:St) {Q:Exit→St→Prop} (q:Box Q):Prop:=
 (lO T ops=true∧wpO S T ops ops.toList s (bx fun s'=>Q .normal s'))∨Js S (.region id ops true) s q
def wpC (S:Sp) (T:Nat→TI):Code→{Q:Exit→St→Prop}→(q:Box Q)→St→Prop
 |.skip,Q,_,s=>Q .normal s
 |.label _,Q,_,s=>Q .normal s
 |.region id ops b,Q,q,s=>match b with|true=>iB S T id ops s q|false=>wpO S T ops ops.toList s (bx fun s'=>Q .normal s')
 |.seq x y,Q,q,s=>wpC S T x (bx (kf (bx fun s'=>wpC S T y q s') q)) s
 |.cond c x y,Q,q,s=>nn (s.ev c) (bx fun b=>if b then wpC S T x q s else wpC S T y q s)
 |.block id c,Q,q,s=>wpC S T c (bx (gg id q)) s
 |.loop c,Q,q,s=>qW S (bx fun Q s=>wpC S T c (bx Q) s) q s
 |.exit id,Q,_,s=>Q (.exit id) s
 |.ret,Q,_,s=>Q .ret s
 |.scope c,_,q,s=>wpC S T c (bx (nP q)) s
 |.goto l,Q,_,s=>Q (.goto l) s
 |c,_,q,s=>Js S c s q
variable {K:AV→Prop}{s:St}{ty:TypeId}{ps:String}{af:Array Edge}{gd:Option (Nat×Bool)}{dst:Option Tmp}{x:Operand}{t:TypeId}{n:Nat}{Q:Exit→St→Prop}{d:Tmp}{a:Array Operand}{ts:Array TypeId}{next:St→Prop}{c:Code}{ix:Operand}{p:Array (Nat×Operand)}{l:List Oper}{q:Box Q}{b:Box next}
section equations
variable {S:Sp}{T:Nat→TI}
@[go_sem] theorem Jt {K:Bool→Prop} (k:Box K):gf true k=K true:=by simp[gf]
@[go_sem] theorem GA {K:Bool→Prop} (k:Box K):gf false k=K false:=by simp[gf]
@[go_sem] theorem Gi (p:Prop) [Decidable p] {K:Bool→Prop} (k:Box K):gf (decide p) k=((p→K true)∧(¬p→K false)):=by simp[gf]
@[go_sem] theorem KK (b:Bool) {K:Bool→Prop} (k:Box K):gf (!b) k=gf b (bx fun t=>K (!t)):=by cases b <;> simp[gf]
@[go_sem] theorem Ju {α:Type} (a:α) {K:α→Prop} (k:Box K):aK (some a) k=K a:=j8 rfl rfl
@[go_sem] theorem Nt (b:Bool) {K:Bool→Prop} (k:Box K):nn (.one (.d (.bool b))) k=gf b k:=j8 rfl rfl
@[go_sem] theorem Nu (b:Bool) {K:Bool→Prop} (k:Box K) {U:Prop} (u:Box U):kI (.one (.d (.bool b))) k u=gf b k:=j8 rfl rfl
@[go_sem] theorem Oy {K:Bool→Prop} (k:Box K) {U:Prop} (u:Box U):kI (.tup []) k u=U:=j8 rfl rfl
@[go_sem] theorem Jv :cK .bool=false:=j8 rfl rfl
@[go_sem] theorem Oz :okD .bool=true:=j8 rfl rfl
@[go_sem] theorem KL (kd:IntKind):cK (.int kd)=false:=j8 rfl rfl
@[go_sem] theorem Jw (kd:IntKind):isSlice (.int kd)=false:=j8 rfl rfl
@[go_sem] theorem RT (kd:IntKind):okD (.int kd)=true:=j8 rfl rfl
@[go_sem] theorem Gj :cK .string=false:=j8 rfl rfl
@[go_sem] theorem Cy :isSlice .string=false:=j8 rfl rfl
@[go_sem] theorem GB :lM .string=false:=j8 rfl rfl
@[go_sem] theorem KM :okD .string=true:=j8 rfl rfl
@[go_sem] theorem GC :isStr .string=true:=j8 rfl rfl
@[go_sem] theorem Cz (e:TypeId):cK (.pointer e)=false:=j8 rfl rfl
@[go_sem] theorem Jx (e:TypeId):okD (.pointer e)=true:=j8 rfl rfl
@[go_sem] theorem GD (e:TypeId):cK (.slice e)=false:=j8 rfl rfl
@[go_sem] theorem Gk (e:TypeId):isSlice (.slice e)=true:=j8 rfl rfl
@[go_sem] theorem Jy (e:TypeId):lM (.slice e)=false:=j8 rfl rfl
@[go_sem] theorem Nv (e:TypeId):okD (.slice e)=true:=j8 rfl rfl
@[go_sem] theorem Jz (e:TypeId):isStr (.slice e)=false:=j8 rfl rfl
@[go_sem] theorem GE (n:Nat) (e:TypeId):cK (.array n e)=true:=j8 rfl rfl
@[go_sem] theorem JA (n:Nat) (e:TypeId):lM (.array n e)=true:=j8 rfl rfl
@[go_sem] theorem Nw (n:Nat) (e:TypeId):okD (.array n e)=true:=j8 rfl rfl
@[go_sem] theorem JB (n:Nat) (e:TypeId):isStr (.array n e)=false:=j8 rfl rfl
@[go_sem] theorem KN (a b:TypeId):cK (.map a b)=false:=j8 rfl rfl
@[go_sem] theorem RU (a b:TypeId):okD (.map a b)=true:=j8 rfl rfl
@[go_sem] theorem Gl (fs:Array Field):cK (.struct fs)=true:=j8 rfl rfl
@[go_sem] theorem KO (fs:Array Field):okD (.struct fs)=true:=j8 rfl rfl
@[go_sem] theorem JC (ps rs:Array TypeId) (v:Bool):cK (.func ps rs v)=false:=j8 rfl rfl
@[go_sem] theorem OA (ps rs:Array TypeId) (v:Bool):okD (.func ps rs v)=true:=j8 rfl rfl
@[go_sem] theorem Nx (d:TypeDesc) (n b:Nat) (z:List D) (cells:List C) (off:Nat) (k:Box K):qS ⟨d,n,b,z⟩ cells off k=(match cK d with|true=>off+n≤cells.length∧K (.agg ((cells.drop off).take n))|false=>aK (cells[off]?) (bx fun c=>K (.one c))):=j8 rfl rfl
@[go_sem] theorem Ny (d:TypeDesc) (n b:Nat) (z:List D) (cs:List D) (k:Box K):zF ⟨d,n,b,z⟩ cs k=(match cK d with|true=>n≤cs.length∧K (.agg ((cs.take n).map .d))|false=>aK (cs[0]?) (bx fun c=>K (.one (.d c)))):=j8 rfl rfl
@[go_sem] theorem Nz (ti:TI) (s:St) (id g off:Nat) (k:Box K):pT ti s (.one (.ptr id g off)) k=(okD ti.desc=true∧s.gen id=g∧aK (s.obj id) (bx fun cells=>qS ti cells off k)):=j8 rfl rfl
@[go_sem] theorem KP (ti:TI) (s:St) (cs:List D) (k:Box K):pT ti s (.one (.d (.iptr cs))) k=(okD ti.desc=true∧zF ti cs k):=j8 rfl rfl
@[go_sem] theorem KQ (ti:TI) (s:St) (id g off:Nat) (x:AV) {K:St→Prop} (k:Box K):np ti s (.one (.ptr id g off)) x k=(okD ti.desc=true∧s.gen id=g∧aK (cellsOf x) (bx fun cs=>cs.length=ti.size∧aK (s.obj id) (bx fun cells=>off+cs.length≤cells.length∧K { s with obj:=upd s.obj id (some (setAt cells off cs))}))):=j8 rfl rfl
@[go_sem] theorem JD (c:C):cellsOf (.one c)=some [c]:=j8 rfl rfl
@[go_sem] theorem JE (cs:List C):cellsOf (.agg cs)=some cs:=j8 rfl rfl
@[go_sem] theorem NA (cells:List C) (off:Nat):setAt cells off []=cells:=j8 rfl rfl
@[go_sem] theorem KR (cells:List C) (off:Nat) (c:C) (cs:List C):setAt cells off (c::cs)=setAt (cells.set off c) (off+1) cs:=j8 rfl rfl
@[go_sem] theorem GF (T:Nat→TI) (n:Nat) (e:TypeId) (s:St) (id g off:Nat) (kd:IntKind) (i:Int) (k:Box K):ka T (.array n e) s (.one (.ptr id g off)) (.one (.d (.int kd i))) k=(s.gen id=g∧(s.obj id).isSome=true∧okD (T e).desc=true∧0≤i∧i<n∧K (.one (.ptr id g (off+i.toNat*(T e).size)))):=j8 rfl rfl
@[go_sem] theorem Gm (s:St) (sz:Nat) (es:List (List D)) (kd:IntKind) (i:Int) (k:Box K):fG s sz (.one (.d (.sl es))) (.one (.d (.int kd i))) k=(0≤i∧aK (es[i.toNat]?) (bx fun c=>c.length=sz∧K (.one (.d (.iptr c))))):=j8 rfl rfl
@[go_sem] theorem CA (s:St) (sz id g sz' off len:Nat) (kd:IntKind) (i:Int) (k:Box K):fG s sz (.one (.osl id g sz' off len)) (.one (.d (.int kd i))) k=(s.gen id=g∧(s.obj id).isSome=true∧0≤i∧i<len∧sz'=sz∧K (.one (.ptr id g (off+i.toNat*sz)))):=j8 rfl rfl
@[go_sem] theorem KS (s:List UInt8) (kd:IntKind) (i:Int) (k:Box K):qT (.one (.d (.str s))) (.one (.d (.int kd i))) k=(0≤i∧aK (s[i.toNat]?) (bx fun c=>K (iv .u8 c.toNat))):=j8 rfl rfl
@[go_sem] theorem OB (kd:IntKind) (x y:Int) (k:Box K):kJ .add kd x y k=K (iv kd (kd.wrap (x+y))):=j8 rfl rfl
@[go_sem] theorem GG (a b:IntKind):sameKind .add a b=(a=b):=j8 rfl rfl
@[go_sem] theorem OC (kd:IntKind) (x y:Int) (k:Box K):kJ .sub kd x y k=K (iv kd (kd.wrap (x-y))):=j8 rfl rfl
@[go_sem] theorem GH (a b:IntKind):sameKind .sub a b=(a=b):=j8 rfl rfl
@[go_sem] theorem OD (kd:IntKind) (x y:Int) (k:Box K):kJ .mul kd x y k=K (iv kd (kd.wrap (x*y))):=j8 rfl rfl
@[go_sem] theorem GI (a b:IntKind):sameKind .mul a b=(a=b):=j8 rfl rfl
@[go_sem] theorem OE (kd:IntKind) (x y:Int) (k:Box K):kJ .quo kd x y k=(y≠0∧K (iv kd (kd.wrap (x.tdiv y)))):=j8 rfl rfl
@[go_sem] theorem GJ (a b:IntKind):sameKind .quo a b=(a=b):=j8 rfl rfl
@[go_sem] theorem OF (kd:IntKind) (x y:Int) (k:Box K):kJ .rem kd x y k=(y≠0∧K (iv kd (x.tmod y))):=j8 rfl rfl
@[go_sem] theorem GK (a b:IntKind):sameKind .rem a b=(a=b):=j8 rfl rfl
@[go_sem] theorem OG (kd:IntKind) (x y:Int) (k:Box K):kJ .eql kd x y k=K (bv (decide (x=y))):=j8 rfl rfl
@[go_sem] theorem GL (a b:IntKind):sameKind .eql a b=(a=b):=j8 rfl rfl
@[go_sem] theorem OH (kd:IntKind) (x y:Int) (k:Box K):kJ .neq kd x y k=K (bv (decide (x≠y))):=j8 rfl rfl
@[go_sem] theorem GM (a b:IntKind):sameKind .neq a b=(a=b):=j8 rfl rfl
@[go_sem] theorem OI (kd:IntKind) (x y:Int) (k:Box K):kJ .lss kd x y k=K (bv (decide (x<y))):=j8 rfl rfl
@[go_sem] theorem GN (a b:IntKind):sameKind .lss a b=(a=b):=j8 rfl rfl
@[go_sem] theorem OJ (kd:IntKind) (x y:Int) (k:Box K):kJ .leq kd x y k=K (bv (decide (x≤y))):=j8 rfl rfl
@[go_sem] theorem GO (a b:IntKind):sameKind .leq a b=(a=b):=j8 rfl rfl
@[go_sem] theorem OK (kd:IntKind) (x y:Int) (k:Box K):kJ .gtr kd x y k=K (bv (decide (y<x))):=j8 rfl rfl
@[go_sem] theorem GP (a b:IntKind):sameKind .gtr a b=(a=b):=j8 rfl rfl
@[go_sem] theorem OL (kd:IntKind) (x y:Int) (k:Box K):kJ .geq kd x y k=K (bv (decide (y≤x))):=j8 rfl rfl
@[go_sem] theorem GQ (a b:IntKind):sameKind .geq a b=(a=b):=j8 rfl rfl
@[go_sem] theorem OM (kd:IntKind) (x y:Int) (k:Box K):kJ .and kd x y k=K (iv kd (kd.wrap (BitVec.ofInt kd.bits x &&&BitVec.ofInt kd.bits y).toNat)):=j8 rfl rfl
@[go_sem] theorem GR (a b:IntKind):sameKind .and a b=(a=b):=j8 rfl rfl
@[go_sem] theorem RW (kd:IntKind) (x y:Int) (k:Box K):kJ .or kd x y k=K (iv kd (kd.wrap (BitVec.ofInt kd.bits x |||BitVec.ofInt kd.bits y).toNat)):=j8 rfl rfl
@[go_sem] theorem JF (a b:IntKind):sameKind .or a b=(a=b):=j8 rfl rfl
@[go_sem] theorem ON (kd:IntKind) (x y:Int) (k:Box K):kJ .shl kd x y k=(0≤y∧K (iv kd (kd.wrap (x*2^(min y.toNat kd.bits))))):=j8 rfl rfl
@[go_sem] theorem GS (a b:IntKind):sameKind .shl a b=True:=j8 rfl rfl
@[go_sem] theorem OO (kd:IntKind) (x y:Int) (k:Box K):kJ .shr kd x y k=(0≤y∧K (iv kd (x.fdiv (2^(min y.toNat kd.bits))))):=j8 rfl rfl
@[go_sem] theorem GT (a b:IntKind):sameKind .shr a b=True:=j8 rfl rfl
@[go_sem] theorem OP (x y:List UInt8) (k:Box K):yc .add x y k=(((x.length+y.length:Nat):Int)≤9223372036854775807∧K (sv (x++y))):=j8 rfl rfl
@[go_sem] theorem OQ (x y:List UInt8) (k:Box K):yc .eql x y k=K (bv (decide (x=y))):=j8 rfl rfl
@[go_sem] theorem OR (x y:List UInt8) (k:Box K):yc .neq x y k=K (bv (decide (x≠y))):=j8 rfl rfl
@[go_sem] theorem OS (d:TypeDesc) (op:BinOp) (k1 k2:IntKind) (a b:Int) (k:Box K):Ba T d op (.one (.d (.int k1 a))) (.one (.d (.int k2 b))) k=(sameKind op k1 k2∧kJ op k1 a b k):=j8 rfl rfl
@[go_sem] theorem OT (d:TypeDesc) (op:BinOp) (a b:List UInt8) (k:Box K):Ba T d op (.one (.d (.str a))) (.one (.d (.str b))) k=yc op a b k:=j8 rfl rfl
@[go_sem] theorem RX (b:Bool) (k:Box K):unA .not (.one (.d (.bool b))) k=K (bv (!b)):=j8 rfl rfl
@[go_sem] theorem NB (st:St) (el:TypeDesc) (src:TypeDesc) (kd k2:IntKind) (n:Int) (k:Box K):pU st el src (.int kd) (.one (.d (.int k2 n))) k=(okD src=true∧K (iv kd (kd.wrap n))):=by cases src <;> rfl
@[go_sem] theorem JG (st:St) (el:TypeDesc) (e:TypeId) (y:AV) (k:Box K):pU st el (.slice e) .string y k=(uJ el=true∧contents st false true 1 y (bx fun _ cs=>aK (u8s cs) (bx fun ns=>K (sv (ns.map fun n=>UInt8.ofNat n.toNat))))):=by cases y <;> rfl
@[go_sem] theorem RY:uJ (.int .u8)=true:=j8 rfl rfl
@[go_sem] theorem RZ:u8s []=some []:=j8 rfl rfl
@[go_sem] theorem GU (s:St) (bs bl:Bool) (sz:Nat) {K:Nat→List C→Prop} (k:Box K):contents s bs bl sz (.one (.d .nsl)) k=(bl=true∧K 0 []):=j8 rfl rfl
@[go_sem] theorem JH (s:St) (bs bl:Bool) (sz:Nat) (es:List (List D)) {K:Nat→List C→Prop} (k:Box K):contents s bs bl sz (.one (.d (.sl es))) k=(bl=true∧(∀e∈es,e.length=sz)∧K es.length (es.flatten.map .d)):=j8 rfl rfl
@[go_sem] theorem GV (s:St) (b1 b2:Bool) (sz:Nat) (bs:List UInt8) {K:Nat→List C→Prop} (k:Box K):contents s b1 b2 sz (.one (.d (.str bs))) k=(b1=true∧sz=1∧K bs.length (bs.map fun b=>.d (iz b))):=j8 rfl rfl
@[go_sem] theorem GW (s:St) (bs bl:Bool) (sz id g sz' off len:Nat) {K:Nat→List C→Prop} (k:Box K):contents s bs bl sz (.one (.osl id g sz' off len)) k=(bl=true∧s.gen id=g∧sz'=sz∧aK (s.obj id) (bx fun cells=>off+len*sz≤cells.length∧K len ((cells.drop off).take (len*sz)))):=j8 rfl rfl
@[go_sem] theorem JI (e:Nat) (ti:TI) (bs bl:Bool) (i d:Nat) (s:St) (y:AV) {K:St→Prop} (k:Box K):kK e ti bs bl i d s (.one (.d .nsl)) y k=contents s bs bl ti.size y (bx fun n cs=>qU n ti.bytes∧K ((s.newC (e+1) i cs).put (some d) (.one (.osl i (nxC (e+1) (s.gen i)) ti.size 0 n)))):=j8 rfl rfl
@[go_sem] theorem JJ (e:Nat) (ti:TI) (bs bl:Bool) (i d:Nat) (s:St) (id g sz off len:Nat) (y:AV) {K:St→Prop} (k:Box K):kK e ti bs bl i d s (.one (.osl id g sz off len)) y k=(s.gen id=g∧sz=ti.size∧aK (s.obj id) (bx fun cells=>off+len*sz≤cells.length∧
   contents s bs bl ti.size y (bx fun n cs=>qU (len+n) ti.bytes∧
    K ((s.newC (apC e (s.gen id) off) id ((cells.drop off).take (len*sz)++cs)).put (some d) (.one (.osl id (nxC (apC e (s.gen id) off) (s.gen id)) ti.size 0 (len+n))))))):=j8 rfl rfl
@[go_sem] theorem OU (s:St) (bs bl:Bool) (k:Box K):uK s bs bl (.one (.d .nsl)) k=(bl=true∧K (iv .i64 0)):=j8 rfl rfl
@[go_sem] theorem Sa (s:St) (bs bl:Bool) (es:List (List D)) (k:Box K):uK s bs bl (.one (.d (.sl es))) k=(bl=true∧K (iv .i64 es.length)):=j8 rfl rfl
@[go_sem] theorem OV (s:St) (bs bl:Bool) (es:List UInt8) (k:Box K):uK s bs bl (.one (.d (.str es))) k=(bs=true∧K (iv .i64 es.length)):=j8 rfl rfl
@[go_sem] theorem OW (s:St) (bs bl:Bool) (id g sz off len:Nat) (k:Box K):uK s bs bl (.one (.osl id g sz off len)) k=(bl=true∧s.gen id=g∧(s.obj id).isSome=true∧K (iv .i64 len)):=j8 rfl rfl
@[go_sem] theorem JK (n:Nat) {K:Nat→Prop} (k:Box K):eJ none n k=K n:=j8 rfl rfl
@[go_sem] theorem JL (n:Nat) (kd:IntKind) (i:Int) {K:Nat→Prop} (k:Box K):eJ (some (.one (.d (.int kd i)))) n k=(0≤i∧K i.toNat):=j8 rfl rfl
@[go_sem] theorem GX (l:List C) (n:Nat):uL (some l) n=(n≤l.length):=propext ⟨fun⟨_,h,h2⟩=>by cases h;exact h2,fun h=>⟨l,rfl,h⟩⟩
@[go_sem] theorem Gn (T:Nat→TI) (n:Nat) (e:TypeId) (s:St) (id g off:Nat) (hi:Option AV) (k:Box K):jg T (.array n e) s (.one (.ptr id g off)) none hi k=(s.gen id=g∧okD (T e).desc=true∧uL (s.obj id) (off+n*(T e).size)∧eJ hi n (bx fun h=>h≤n∧K (.one (.osl id g (T e).size off h)))):=j8 rfl rfl
@[go_sem] theorem KT (st:St) (bs bl:Bool) (sz:Nat) (s:List UInt8) (lo hi:Option AV) (k:Box K):nq st bs bl sz (.one (.d (.str s))) lo hi k=(bs=true∧eJ hi s.length (bx fun h=>eJ lo 0 (bx fun l=>l≤h∧h≤s.length∧K (sv ((s.take h).drop l))))):=j8 rfl rfl
@[go_sem] theorem KU (s:St) (bs bl:Bool) (sz id g sz' off len:Nat) (lo hi:Option AV) (k:Box K):nq s bs bl sz (.one (.osl id g sz' off len)) lo hi k=(bl=true∧s.gen id=g∧(s.obj id).isSome=true∧eJ hi len (bx fun h=>eJ lo 0 (bx fun l=>l≤h∧h≤len∧sz'=sz∧K (.one (.osl id g sz (off+l*sz) (h-l)))))):=j8 rfl rfl
@[go_sem] theorem OX (sz n:Nat) {K:List C→Prop} (k:Box K):vR sz n [] k=K []:=j8 rfl rfl
@[go_sem] theorem NC (sz n i:Nat) (x:AV) (r:List (Nat×AV)) {K:List C→Prop} (k:Box K):vR sz n ((i,x)::r) k=(i=n∧aK (cellsOf x) (bx fun cs=>cs.length=sz∧vR sz (n+1) r (bx fun rest=>K (cs++rest)))):=j8 rfl rfl
@[go_sem] theorem CB (e sz i d n:Nat) (s:St) (ps:List (Nat×AV)) {K:St→Prop} (k:Box K):iA e sz i d n s ps k=(ps.length=n∧n*sz≤16777216∧vR sz 0 ps (bx fun cs=>K ((s.newC (e+1) i cs).put (some d) (.one (.osl i (nxC (e+1) (s.gen i)) sz 0 n))))):=j8 rfl rfl
@[go_sem] theorem CC (fs:Array Field) (f:Nat):fB (.struct fs) f=fs[f]?:=j8 rfl rfl
@[go_sem] theorem CD (t f:Nat) (s:St) (id g off:Nat) (k:Box K):fH T t f s (.one (.ptr id g off)) k=(s.gen id=g∧(s.obj id).isSome=true∧aK (fB (T t).desc f) (bx fun fl=>(okD (T fl.type).desc=true∧(T fl.type).size≠0)∧K (.one (.ptr id g (off+fl.offset))))):=j8 rfl rfl
@[go_sem] theorem Cv (t f:Nat) (s:St) (cs:List D) (k:Box K):fH T t f s (.one (.d (.iptr cs))) k=aK (fB (T t).desc f) (bx fun fl=>(okD (T fl.type).desc=true∧(T fl.type).size≠0)∧K (.one (.d (.iptr (cs.drop fl.offset))))):=j8 rfl rfl
@[go_sem] theorem KV (t f:Nat) (cs:List C) (k:Box K):oW T t f (.agg cs) k=aK (fB (T t).desc f) (bx fun fl=>okD (T fl.type).desc=true∧qS (T fl.type) cs fl.offset k):=j8 rfl rfl
@[go_sem] theorem ND (pl:Nat→Option (Nat×Nat)) (cells:List C) {K:List C→Prop} (k:Box K):pV pl cells [] k=K cells:=j8 rfl rfl
@[go_sem] theorem KW (pl:Nat→Option (Nat×Nat)) (cells:List C) (i:Nat) (x:AV) (r:List (Nat×AV)) {K:List C→Prop} (k:Box K):pV pl cells ((i,x)::r) k=aK (pl i) (bx fun q=>aK (cellsOf x) (bx fun cs=>cs.length=q.2∧q.1+q.2≤cells.length∧pV pl (setAt cells q.1 cs) r k)):=j8 rfl rfl
@[go_sem] theorem KX (fs:Array Field) (i:Nat):placeOf T (.struct fs) i=(fB (.struct fs) i).bind fun fl=>bif okD (T fl.type).desc then some (fl.offset,(T fl.type).size) else none:=j8 rfl rfl
@[go_sem] theorem NE (t:Nat) (ps:List (Nat×AV)) (k:Box K):da T t ps k=(eW T t=true∧pV (placeOf T (T t).desc) ((T t).zero.map .d) ps (bx fun cs=>K (.agg cs))):=j8 rfl rfl
@[go_sem] theorem Sb (t i d:Nat) (s:St) (x:AV) {K:St→Prop} (k:Box K):Gz t i d s x k=aK (cellsOf x) (bx fun cs=>K ((s.newC (t+1) i cs).put (some d) (.one (.ptr i (nxC (t+1) (s.gen i)) 0)))):=j8 rfl rfl
@[go_sem] theorem NF (t:Nat) (ti:TI) (i d:Nat) (s:St) {K:St→Prop} (k:Box K):uM t ti i d s k=(okD ti.desc=true∧K ((s.newC (t+1) i (ti.zero.map .d)).put (some d) (.one (.ptr i (nxC (t+1) (s.gen i)) 0)))):=j8 rfl rfl
@[go_sem] theorem Gp (s:St) (id g off:Nat) (k:Box K):gZ s (.one (.ptr id g off)) k=(s.gen id=g∧(s.obj id).isSome=true∧K (.one (.ptr id g off))):=j8 rfl rfl
@[go_sem] theorem CE (s:St) (cs:List D) (k:Box K):gZ s (.one (.d (.iptr cs))) k=K (.one (.d (.iptr cs))):=j8 rfl rfl
@[go_sem] theorem GY (ts:List AV) (i:Nat) (k:Box K):lN (.tup ts) i k=aK (ts[i]?) k:=j8 rfl rfl
@[go_sem] theorem Sc (k1 k2:IntKind) (a b:Int) (k:Box K):mxA true (.one (.d (.int k1 a))) (.one (.d (.int k2 b))) k=K (iv k1 (max a b)):=j8 rfl rfl
@[go_sem] theorem Sd (k1 k2:IntKind) (a b:Int) (k:Box K):mxA false (.one (.d (.int k1 a))) (.one (.d (.int k2 b))) k=K (iv k1 (min a b)):=j8 rfl rfl
@[go_sem] theorem Gq (e:Nat) (ti:TI) (i d:Nat) (s:St) (k1 k2:IntKind) (n m:Int) {K:St→Prop} (k:Box K):hY e ti i d s (.one (.d (.int k1 n))) (.one (.d (.int k2 m))) k=(0≤n∧n≤m∧m≤4611686018427387904∧m*ti.bytes≤281474976710656∧
   K ((s.newC (e+1) i (List.replicate m.toNat (ti.zero.map C.d)).flatten).put (some d) (.one (.osl i (nxC (e+1) (s.gen i)) ti.size 0 n.toNat)))):=j8 rfl rfl
@[go_sem] theorem NG (k k':IntKind) (n:Int):ff (.int k) (.int k' n)=decide (k'=k):=j8 rfl rfl
@[go_sem] theorem NH (s:List UInt8):ff .string (.str s)=true:=j8 rfl rfl
@[go_sem] theorem JM:jb (.int .i64)=3:=j8 rfl rfl
@[go_sem] theorem JN:jb .string=8:=j8 rfl rfl
@[go_sem] theorem NI:cH 3=.int .i64:=j8 rfl rfl
@[go_sem] theorem NJ:cH 8=.string:=j8 rfl rfl
@[go_sem] theorem Se (n:Nat):tB true n=200+n:=j8 rfl rfl
@[go_sem] theorem Sf (n:Nat):tB false n=n:=j8 rfl rfl
@[go_sem] theorem OY (d:TypeDesc) (a b:Nat) (z:List D) {K:List D→Prop} (k:Box K):vT ⟨d,a,b,z⟩ k=((okD d=true∧2≤z.length)∧K z):=j8 rfl rfl
@[go_sem] theorem OZ (z:List D) (c:Option C):kL true z c=.tup [.agg ((sQ z c).map .d),bv c.isSome]:=j8 rfl rfl
@[go_sem] theorem Pa (z:List D) (c:Option C):kL false z c=.agg ((sQ z c).map .d):=j8 rfl rfl
@[go_sem] theorem NK (z:List D):sQ z none=z:=j8 rfl rfl
@[go_sem] theorem NL (z ds:List D):sQ z (some (.d (.iptr ds)))=ds:=j8 rfl rfl
@[go_sem] theorem NM:datas []=some []:=j8 rfl rfl
@[go_sem] theorem KY (x:D) (r:List C):datas (.d x::r)=(datas r).map (x :: ·):=j8 rfl rfl
@[go_sem] theorem JO (t i d:Nat) (s:St) {K:St→Prop} (k:Box K):kc T t i d s k=(match (T t).desc with
 |.map kt et=>cH (jb (T kt).desc)=(T kt).desc∧K ((s.newC 0 i []).put (some d) (.one (.mp i (nxC 0 (s.gen i)) (tB (cK (T et).desc) (jb (T kt).desc)))))
 | _=>False):=j8 rfl rfl
@[go_sem] theorem Pb (d:TypeDesc) (a b:Nat) (z:D) {K:D→Prop} (k:Box K):vS ⟨d,a,b,[z]⟩ k=((okD d=true∧cK d=false)∧K z):=j8 rfl rfl
@[go_sem] theorem KZ (t:Nat) (s:St) (x:AV) (k:D) (ok:Bool) (b:Box K):kM T t s x (.one (.d k)) ok b=(match (T t).desc with
 |.map kt et=>(okD (T kt).desc=true∧ff (T kt).desc k=true)∧
   match cK (T et).desc with
   | false=>vS (T et) (bx fun z=>
     match x with
     |.one (.mp id g kd)=>s.gen id=g∧cH kd=(T kt).desc∧aK (s.obj id) (bx fun cells=>K (pW ok z (mget cells k)))
     |.one (.d .nilm)=>K (pW ok z none)
     | _=>False)
   | true=>vT (T et) (bx fun z=>
     match x with
     |.one (.mp id g kd)=>s.gen id=g∧(200≤kd∧cH (kd-200)=(T kt).desc)∧aK (s.obj id) (bx fun cells=>K (kL ok z (mget cells k)))
     |.one (.d .nilm)=>K (kL ok z none)
     | _=>False)
 | _=>False):=by unfold kM;cases (T t).desc <;> rfl
@[go_sem] theorem CF (t:Nat) (s:St) (id g kd:Nat) (k:D) (cs:List C) {K:St→Prop} (b:Box K):dr T t s (.one (.mp id g kd)) (.one (.d k)) (.agg cs) b=(match (T t).desc with
 |.map kt _=>(okD (T kt).desc=true∧ff (T kt).desc k=true)∧s.gen id=g∧(200≤kd∧cH (kd-200)=(T kt).desc)∧aK (datas cs) (bx fun ds=>aK (s.obj id) (bx fun cells=>K { s with obj:=upd s.obj id (some (mset cells k (.d (.iptr ds))))}))
 | _=>False):=by unfold dr;cases (T t).desc <;> rfl
@[go_sem] theorem Gr (t:Nat) (s:St) (id g kd:Nat) (k:D) (c:C) {K:St→Prop} (b:Box K):dr T t s (.one (.mp id g kd)) (.one (.d k)) (.one c) b=(match (T t).desc with
 |.map kt _=>(okD (T kt).desc=true∧ff (T kt).desc k=true)∧s.gen id=g∧cH kd=(T kt).desc∧aK (s.obj id) (bx fun cells=>K { s with obj:=upd s.obj id (some (mset cells k c))})
 | _=>False):=by unfold dr;cases (T t).desc <;> rfl
@[go_sem] theorem Pc (id g off:Nat):Bb (.one (.ptr id g off))=some (.ptr id g off):=j8 rfl rfl
@[go_sem] theorem NN:ke []=some []:=j8 rfl rfl
@[go_sem] theorem La (x:AV) (xs:List AV):ke (x::xs)=(Bb x).bind fun p=>(ke xs).bind fun ps=>some (p::ps):=j8 rfl rfl
@[go_sem] theorem Gs (f:FuncId) (caps:List AV) (k:Box K):ie f [] caps k=(f<1000000∧aK (ke caps) (bx fun l=>K (.one (.clo f l)))):=j8 rfl rfl
@[go_sem] theorem CG (f:FuncId) (x:AV) (r:List AV) (k:Box K):ie f (x::r) [] k=aK (ke (x::r)) (bx fun l=>K (.one (.clo (f+1000000) l))):=propext ⟨fun h=>h.2,fun h=>⟨rfl,h⟩⟩
@[go_sem] theorem Pd{K:St→Prop}{k:Box K}:opA S T ⟨dst,.move x,ty,ps,af,gd⟩ s k=K (s.put dst (s.ev x)):=j8 rfl rfl
@[go_sem] theorem Lb{K:St→Prop}{k:Box K}:opA S T ⟨dst,.assign x,ty,ps,af,gd⟩ s k=K (s.put dst (s.ev x)):=j8 rfl rfl
@[go_sem] theorem Pe{K:St→Prop}{k:Box K}{c a b:Operand}:opA S T ⟨dst,.pick c a b,ty,ps,af,gd⟩ s k=nn (s.ev c) (bx fun t=>K (s.put dst (if t then s.ev a else s.ev b))):=j8 rfl rfl
@[go_sem] theorem Pf{K:St→Prop}{k:Box K}{a:Operand}:opA S T ⟨dst,.load t a,ty,ps,af,gd⟩ s k=pT (T t) s (s.ev a) (bx fun v=>K (s.put dst v)):=j8 rfl rfl
@[go_sem] theorem NO{K:St→Prop}{k:Box K}{a x:Operand}:opA S T ⟨dst,.store t a x,ty,ps,af,gd⟩ s k=np (T t) s (s.ev a) (s.ev x) (bx fun s'=>K (s'.put dst uv)):=j8 rfl rfl
@[go_sem] theorem Gt{K:St→Prop}{k:Box K}{x:Nat}:opA S T ⟨dst,.indexAddr t (.tmp x) ix,ty,ps,af,gd⟩ s k=(bif lM (T t).desc then ka T (T t).desc s (s.f x) (s.ev ix) (bx fun v=>K (s.put dst v)) else cr T t=true∧fG s (aL T t).size (s.f x) (s.ev ix) (bx fun v=>K (s.put dst v))):=j8 rfl rfl
@[go_sem] theorem Pg{K:St→Prop}{k:Box K}{t g:Nat}:opA S T ⟨dst,.indexAddr t (.global g) ix,ty,ps,af,gd⟩ s k=aR S ⟨dst,.indexAddr t (.global g) ix,ty,ps,af,gd⟩ s k:=j8 rfl rfl
@[go_sem] theorem NP{K:St→Prop}{k:Box K}{x ix:Operand}:opA S T ⟨dst,.index t x ix,ty,ps,af,gd⟩ s k=(isStr (T t).desc=true∧qT (s.ev x) (s.ev ix) (bx fun v=>K (s.put dst v))):=j8 rfl rfl
@[go_sem] theorem NQ{K:St→Prop}{k:Box K}{o:BinOp}{t u:TypeId}{x y:Operand}:opA S T ⟨dst,.binOp o t x y u,ty,ps,af,gd⟩ s k=Ba T (T t).desc o (s.ev x) (s.ev y) (bx fun v=>K (s.put dst v)):=j8 rfl rfl
@[go_sem] theorem Ph{K:St→Prop}{k:Box K}{o:UnOp}:opA S T ⟨dst,.unOp o t x,ty,ps,af,gd⟩ s k=unA o (s.ev x) (bx fun v=>K (s.put dst v)):=j8 rfl rfl
@[go_sem] theorem JP{K:St→Prop}{k:Box K}{t u:TypeId}:opA S T ⟨dst,.convert t u x,ty,ps,af,gd⟩ s k=(bif isSlice (T u).desc then kN T t u S.base dst s (s.ev x) k else pU s (aL T t).desc (T t).desc (T u).desc (s.ev x) (bx fun v=>K (s.put dst v))):=j8 rfl rfl
@[go_sem] theorem JQ (T:Nat→TI) (src d base dd:Nat) (s:St) (bs:List UInt8) {K:St→Prop} (k:Box K):kN T src d base (some dd) s (.one (.d (.str bs))) k=(isStr (T src).desc=true∧uJ (aL T d).desc=true∧K ((s.newC (aC T d+1) (base+dd) (bs.map fun b=>.d (iz b))).put (some dd) (.one (.osl (base+dd) (nxC (aC T d+1) (s.gen (base+dd))) 1 0 bs.length)))):=j8 rfl rfl
@[go_sem] theorem NR{K:St→Prop}{k:Box K}{lo hi:Option Operand}:opA S T ⟨dst,.slice t x lo hi none,ty,ps,af,gd⟩ s k=(bif lM (T t).desc then jg T (T t).desc s (s.ev x) (lo.map s.ev) (hi.map s.ev) (bx fun v=>K (s.put dst v)) else nq s (isStr (T t).desc) (cr T t) (aL T t).size (s.ev x) (lo.map s.ev) (hi.map s.ev) (bx fun v=>K (s.put dst v))):=j8 rfl rfl
@[go_sem] theorem CH{K:St→Prop}{k:Box K}{t n:Nat}:opA S T ⟨(some d),.buildSlice t n p,ty,ps,af,gd⟩ s k=(cr T t=true∧iA (aC T t) (aL T t).size (S.base+d) d n s (p.toList.map fun p=>(p.1,s.ev p.2)) k):=j8 rfl rfl
@[go_sem] theorem Gu{K:St→Prop}{k:Box K}{l c:Operand}:opA S T ⟨(some d),.makeSlice t l c,ty,ps,af,gd⟩ s k=(cr T t=true∧hY (aC T t) (aL T t) (S.base+d) d s (s.ev l) (s.ev c) k):=j8 rfl rfl
@[go_sem] theorem Sg{K:St→Prop}{k:Box K}:opA S T ⟨dst,.call ⟨.builtin .len,a,ts⟩,ty,ps,af,gd⟩ s k=((a.size=1∧ts.size=1)∧uK s (isStr (T (ts.getD 0 0)).desc) (cr T (ts.getD 0 0)) (s.ev (a.getD 0 (.const .nilFunc))) (bx fun v=>K (s.put dst v))):=j8 rfl rfl
@[go_sem] theorem Lc{K:St→Prop}{k:Box K}:opA S T ⟨(some d),.call ⟨.builtin .append,a,ts⟩,ty,ps,af,gd⟩ s k=((a.size=2∧ts.size=2)∧cr T (ts.getD 0 0)=true∧kK (aC T (ts.getD 0 0)) (aL T (ts.getD 0 0)) (isStr (T (ts.getD 1 0)).desc) (cr T (ts.getD 1 0)) (S.base+d) d s (s.ev (a.getD 0 (.const .nilFunc))) (s.ev (a.getD 1 (.const .nilFunc))) k):=j8 rfl rfl
@[go_sem] theorem Gv{K:St→Prop}{k:Box K}{t f:Nat}:opA S T ⟨dst,.fieldAddr t x f,ty,ps,af,gd⟩ s k=fH T t f s (s.ev x) (bx fun v=>K (s.put dst v)):=j8 rfl rfl
@[go_sem] theorem NS{K:St→Prop}{k:Box K}{t f:Nat}:opA S T ⟨dst,.field t x f,ty,ps,af,gd⟩ s k=oW T t f (s.ev x) (bx fun v=>K (s.put dst v)):=j8 rfl rfl
@[go_sem] theorem NT{K:St→Prop}{k:Box K}{t:Nat}:opA S T ⟨dst,.build t p,ty,ps,af,gd⟩ s k=da T t (p.toList.map fun p=>(p.1,s.ev p.2)) (bx fun v=>K (s.put dst v)):=j8 rfl rfl
@[go_sem] theorem GZ{K:St→Prop}{k:Box K}:opA S T ⟨dst,.nilCheck x,ty,ps,af,gd⟩ s k=gZ s (s.ev x) (bx fun v=>K (s.put dst v)):=j8 rfl rfl
@[go_sem] theorem JR{K:St→Prop}{k:Box K}{i:Nat}:opA S T ⟨dst,.extract x i,ty,ps,af,gd⟩ s k=lN (s.ev x) i (bx fun v=>K (s.put dst v)):=j8 rfl rfl
@[go_sem] theorem Sh{K:St→Prop}{k:Box K}{t:Nat}:opA S T ⟨(some d),.box t x,ty,ps,af,gd⟩ s k=Gz t (S.base+d) d s (s.ev x) k:=j8 rfl rfl
@[go_sem] theorem NU{K:St→Prop}{k:Box K}{t:Nat}:opA S T ⟨(some d),.alloc t,ty,ps,af,gd⟩ s k=uM t (T t) (S.base+d) d s k:=j8 rfl rfl
@[go_sem] theorem JS{K:St→Prop}{k:Box K}:opA S T ⟨(some d),.makeMap t none,ty,ps,af,gd⟩ s k=kc T t (S.base+d) d s k:=j8 rfl rfl
@[go_sem] theorem Ld{K:St→Prop}{k:Box K}{x ix:Operand}{ok:Bool}:opA S T ⟨dst,.lookup t x ix ok,ty,ps,af,gd⟩ s k=kM T t s (s.ev x) (s.ev ix) ok (bx fun v=>K (s.put dst v)):=j8 rfl rfl
@[go_sem] theorem Gw{K:St→Prop}{k:Box K}{m ix x:Operand}:opA S T ⟨dst,.mapUpdate t m ix x,ty,ps,af,gd⟩ s k=dr T t s (s.ev m) (s.ev ix) (s.ev x) (bx fun s'=>K (s'.put dst uv)):=j8 rfl rfl
@[go_sem] theorem Ha{K:St→Prop}{k:Box K}{f:FuncId}{first caps:Array Operand}:opA S T ⟨dst,.makeFunc (.func f) first caps,ty,ps,af,gd⟩ s k=ie f (first.toList.map s.ev) (caps.toList.map s.ev) (bx fun v=>K (s.put dst v)):=j8 rfl rfl
@[go_sem] theorem Si{K:St→Prop}{k:Box K}:opA S T ⟨dst,.call ⟨.builtin .max,a,ts⟩,ty,ps,af,gd⟩ s k=(a.size=2∧mxA true (s.ev (a.getD 0 (.const .nilFunc))) (s.ev (a.getD 1 (.const .nilFunc))) (bx fun v=>K (s.put dst v))):=j8 rfl rfl
@[go_sem] theorem Sj{K:St→Prop}{k:Box K}:opA S T ⟨dst,.call ⟨.builtin .min,a,ts⟩,ty,ps,af,gd⟩ s k=(a.size=2∧mxA false (s.ev (a.getD 0 (.const .nilFunc))) (s.ev (a.getD 1 (.const .nilFunc))) (bx fun v=>K (s.put dst v))):=j8 rfl rfl
@[go_sem] theorem Pi{K:St→Prop}{k:Box K}{f:Operand}:opA S T ⟨dst,.call ⟨.value f,a,ts⟩,ty,ps,af,gd⟩ s k=aR S ⟨dst,.call ⟨.value f,a,ts⟩,ty,ps,af,gd⟩ s k:=j8 rfl rfl
@[go_sem] theorem SP (s:St) (t:Nat):s.ev (.tmp t)=s.f t:=j8 rfl rfl
@[go_sem] theorem Pj (s:St) (v:Value):s.ev (.const v)=sP v:=j8 rfl rfl
@[go_sem] theorem Sk (s:St) (f:Nat):s.ev (.func f)=.one (.d (.fn f)):=j8 rfl rfl
@[go_sem] theorem NV (b:Bool):sP (.bool b)=bv b:=j8 rfl rfl
@[go_sem] theorem Pk (k:IntKind) (n:Int):sP (.int k n)=iv k n:=j8 rfl rfl
@[go_sem] theorem JT (s:ByteArray):sP (.string s)=sv s.data.toList:=j8 rfl rfl
@[go_sem] theorem Pm :sP (.slice none 0 0)=.one (.d .nsl):=j8 rfl rfl
@[go_sem] theorem NW :sP (.pointer none)=.one (.d .nilp):=j8 rfl rfl
@[go_sem] theorem Hb:kf b q .normal s=next s:=j8 rfl rfl
@[go_sem] theorem NX:kf b q .ret s=Q .ret s:=j8 rfl rfl
@[go_sem] theorem Le:kf b q (.exit n) s=Q (.exit n) s:=j8 rfl rfl
@[go_sem] theorem Cw:gg n q .normal s=Q .normal s:=j8 rfl rfl
@[go_sem] theorem Hc:gg n q .ret s=Q .ret s:=j8 rfl rfl
@[go_sem] theorem Gx {n m:Nat}:gg n q (.exit m) s=(if m=n then Q .normal s else Q (.exit m) s):=j8 rfl rfl
@[go_sem] theorem JU:nP q .ret s=Q .ret s:=j8 rfl rfl
@[go_sem] theorem Sl (c:Nat) (s:St) (d:Nat) (cs:List C):s.newC c d cs = { s with gen:=upd s.gen d (nxC c (s.gen d)),obj:=upd s.obj d (some cs)}:=j8 rfl rfl
section steps
variable {f:Nat→AV}{g:Nat→Nat}{ob:Nat→Option (List C)}{Q:Exit→St→Prop}{q:Box Q}{K:St→Prop}{k:Box K}{ops:Array Oper}{rest:List Oper}
@[go_sem] theorem Pn:wpC S T .skip q ⟨f,g,ob⟩=Q .normal ⟨f,g,ob⟩:=j8 rfl rfl
@[go_sem] theorem NY:wpC S T (.label n) q ⟨f,g,ob⟩=Q .normal ⟨f,g,ob⟩:=j8 rfl rfl
@[go_sem] theorem NZ:wpC S T (.scope c) q ⟨f,g,ob⟩=wpC S T c (bx (nP q)) ⟨f,g,ob⟩:=j8 rfl rfl
@[go_sem] theorem Po:wpC S T (.region n l.toArray true) q ⟨f,g,ob⟩=iB S T n l.toArray ⟨f,g,ob⟩ q:=j8 rfl rfl
@[go_sem] theorem Lf:wpC S T (.region n l.toArray false) q ⟨f,g,ob⟩=wpO S T l.toArray l ⟨f,g,ob⟩ (bx fun s'=>Q .normal s'):=by simp[wpC]
@[go_sem] theorem Sm {x y:Code}:wpC S T (.seq x y) q ⟨f,g,ob⟩=wpC S T x (bx (kf (bx fun s'=>wpC S T y q s') q)) ⟨f,g,ob⟩:=j8 rfl rfl
@[go_sem] theorem Pp {c:Operand}{x y:Code}:wpC S T (.cond c x y) q ⟨f,g,ob⟩=nn (St.ev ⟨f,g,ob⟩ c) (bx fun b=>if b then wpC S T x q ⟨f,g,ob⟩ else wpC S T y q ⟨f,g,ob⟩):=j8 rfl rfl
@[go_sem] theorem Oa:wpC S T (.block n c) q ⟨f,g,ob⟩=wpC S T c (bx (gg n q)) ⟨f,g,ob⟩:=j8 rfl rfl
@[go_sem] theorem Pq:wpC S T (.loop c) q ⟨f,g,ob⟩=qW S (bx fun Q s=>wpC S T c (bx Q) s) q ⟨f,g,ob⟩:=j8 rfl rfl
@[go_sem] theorem Pr:wpC S T (.exit n) q ⟨f,g,ob⟩=Q (.exit n) ⟨f,g,ob⟩:=j8 rfl rfl
@[go_sem] theorem Sn:wpC S T .ret q ⟨f,g,ob⟩=Q .ret ⟨f,g,ob⟩:=j8 rfl rfl
@[go_sem] theorem So:wpO S T ops [] ⟨f,g,ob⟩ k=K ⟨f,g,ob⟩:=j8 rfl rfl
@[go_sem] theorem Ps{op:Op} :
  wpO S T ops (⟨dst,op,ty,ps,af,none⟩::rest) ⟨f,g,ob⟩ k=opA S T ⟨dst,op,ty,ps,af,none⟩ ⟨f,g,ob⟩ (bx fun s'=>wpO S T ops rest s' k):=j8 rfl rfl
@[go_sem] theorem Pt{op:Op}{j:Nat}{want:Bool} :
  wpO S T ops (⟨dst,op,ty,ps,af,some (j,want)⟩::rest) ⟨f,g,ob⟩ k =
   aK ((ops[j]?).bind (·.dst)) (bx fun d=>
    kI (f d) (bx fun b=>if b=want then opA S T ⟨dst,op,ty,ps,af,some (j,want)⟩ ⟨upd f d (bv b),g,ob⟩ (bx fun s'=>wpO S T ops rest s' k)
     else wpO S T ops rest (St.put ⟨upd f d (bv b),g,ob⟩ dst uv) k) (bx (wpO S T ops rest (St.put ⟨f,g,ob⟩ dst uv) k))):=j8 rfl rfl
end steps
@[go_sem] theorem Ob {α:Type} (f:Nat→α) (i j:Nat) (v:α):upd f i v j=if j=i then v else f j:=j8 rfl rfl
@[go_sem] theorem St.put_some (s:St) (d:Nat) (v:AV):s.put (some d) v = { s with f:=upd s.f d v }:=j8 rfl rfl
@[go_sem] theorem St.put_none (s:St) (v:AV):s.put none v=s:=j8 rfl rfl
attribute [go_sem] Nat.reduceEqDiff Nat.reduceAdd Nat.reduceMul Nat.reduceSub Nat.reduceLT Nat.reduceLeDiff Int.reduceLT Int.reduceLE Int.reduceEq Int.reduceNe Int.reduceAdd Int.reduceNeg Int.reduceToNat
attribute [go_sem] if_true if_false ite_true ite_false and_true true_and List.length_map List.length_cons List.length_nil List.size_toArray Option.bind_some Option.map_some Option.map_none Option.bind_none cond_true cond_false List.append_nil List.cons_append List.set_cons_zero List.set_cons_succ List.set_nil List.drop_succ_cons List.take_succ_cons List.take_zero
attribute [go_sem] Array.getD_eq_getD_getElem? List.getElem?_toArray List.getElem?_cons_zero List.getElem?_cons_succ List.getElem?_nil Option.getD_some Option.getD_none List.getElem?_map
attribute [go_sem] List.drop_zero List.take_length Nat.mul_one Nat.zero_add List.map_cons List.map_nil List.nil_append reduceCtorEq not_true_eq_false not_false_eq_true implies_true Bool.not_true Bool.not_false Bool.true_eq_false Bool.false_eq_true
attribute [go_sem] Option.some.injEq Option.isSome_some decide_true decide_false ne_eq Int.toNat_natCast
end equations
end
end
end Go.Am

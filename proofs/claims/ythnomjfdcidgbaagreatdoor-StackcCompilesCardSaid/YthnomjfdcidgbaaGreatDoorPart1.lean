/- A part of the proof; no conditions. -/
import Derived.KernelRfl
import Derived.StillTail
import Derived.Deep.Quiet
set_option linter.unusedSimpArgs false
set_option linter.unusedVariables false
namespace Go
section
theorem a6 {P:Prop} (h:P:=by omega):P:=h
theorem a7 {P:Prop} (h:P:=by simp):P:=h
theorem a8 {P:Prop} (h:P:=by decide):P:=h
theorem b9 {P:Prop} (h:P:=by decide +kernel):P:=h
theorem c8 {P:Prop} (h:P:=by kernel_rfl):P:=h
theorem c9 {P:Prop} (h:P:=by rfl):P:=h
theorem j0 {P:Prop} (h:P:=by assumption):P:=h
abbrev j4:=@List.length_map
abbrev j5:=@List.length_append
abbrev j6:=@List.length_cons
abbrev j7:=@List.length_nil
abbrev j8:=@Nat.le_refl
abbrev j9:=@Eq.trans
abbrev l0:=@List.getElem?_eq_some_iff
abbrev l4:=@List.mem_of_getElem?
abbrev l5:=@List.take_of_length_le
abbrev l6:=@List.map_cons
abbrev l7:=@True.intro
abbrev l8:=@eq_true
abbrev l9:=@List.append_nil
abbrev r0:=@List.append_assoc
abbrev s5:=@List.getElem?_cons_succ
abbrev s6:=@Bool.and_eq_true
abbrev s7:=@Option.some.injEq
abbrev s9:=@Array.getD_eq_getD_getElem?
abbrev u7:=@Bool.true_and
abbrev v7:=@List.map_nil
abbrev v8:=@List.eq_nil_of_length_eq_zero
abbrev w7:=@List.getElem?_cons_zero
abbrev w8:=@List.getElem?_eq_getElem
abbrev w9:=@List.getElem?_toArray
abbrev x6:=@List.all_eq_true
abbrev x7:=@List.getElem?_map
abbrev x8:=@decide_eq_false
abbrev x9:=@Bool.false_and
abbrev y1:=@Option.map_some
abbrev y2:=@List.mem_cons
abbrev y7:=@Option.getD_some
abbrev y8:=@List.nil_append
abbrev y9:=@List.drop_eq_getElem_cons
abbrev z6:=@Array.getElem?_eq_getElem
abbrev z7:=@List.not_mem_nil
abbrev z8:=@Ne.symm
abbrev A0:=@List.cons_append
abbrev A1:=@List.drop_of_length_le
abbrev A2:=@List.length_drop
abbrev A3:=@List.map_append
abbrev A4:=@if_false
abbrev A5:=@List.getElem?_eq_none
abbrev A6:=@decide_eq_true
abbrev A7:=@Int.toNat_natCast
abbrev A8:=@List.take_add_one
abbrev A9:=@if_true
abbrev B1:=@Nat.le_trans
abbrev B3:=@List.drop_zero
abbrev B4:=@Bool.and_false
abbrev B5:=@Option.isSome_some
abbrev B6:=@Nat.add_assoc
abbrev B7:=@Array.getElem?_eq_some_iff
abbrev B8:=@Bool.false_eq_true
abbrev B9:=@decide_eq_true_eq
abbrev C0:=@Array.getElem?_replicate
abbrev C1:=@Option.isSome_none
abbrev C2:=@Nat.zero_add
abbrev C3:=@List.getElem?_of_mem
abbrev C4:=@List.getD_eq_getElem?_getD
abbrev C5:=@List.mem_singleton
abbrev C6:=@List.getElem?_set
abbrev C7:=@List.length_set
abbrev C8:=@List.mem_append
abbrev C9:=@List.flatMap_cons
abbrev D0:=@Bool.and_assoc
abbrev D1:=@List.replicate_succ
abbrev D2:=@List.length_take
abbrev D3:=@List.mem_range
abbrev D4:=@List.all_cons
abbrev D5:=@Array.getElem?_append_left
abbrev D6:=@or_false
abbrev D7:=@List.drop_length
abbrev D8:=@List.getElem?_drop
abbrev D9:=@Nat.add_mul
abbrev E0:=@List.sum_cons
abbrev E3:=@Option.some.inj
abbrev E4:=@List.take_succ_cons
abbrev E5:=@List.flatten_cons
abbrev E6:=@Array.getElem_mem_toList
abbrev E7:=@Nat.lt_of_lt_of_le
abbrev E8:=@Array.getElem?_append_right
abbrev E9:=@Int.le_refl
abbrev F0:=@List.takeWhile_cons
abbrev F1:=@Option.map_none
abbrev F2:=@Bool.or_eq_true
abbrev F3:=@List.take_length
abbrev F6:=@List.getElem?_append_right
abbrev F7:=@Classical.byContradiction
abbrev F8:=@List.set_cons_zero
abbrev F9:=@List.mem_map
abbrev G0:=@List.takeWhile_sublist
abbrev G1:=@Array.getElem?_toList
abbrev G2:=@List.take_append_drop
abbrev G3:=@Bool.not_eq_true'
abbrev G4:=@Nat.lt_of_le_of_lt
abbrev G5:=@List.getElem?_take
abbrev G6:=@List.getElem?_append_left
abbrev G7:=@Array.ext'
abbrev G8:=@List.singleton_append
abbrev G9:=@List.length_replicate
abbrev H0:=@List.eq_of_mem_replicate
abbrev H2:=@List.mem_mapIdx
abbrev H3:=@List.mem_cons_self
abbrev H4:=@Option.toList_some
abbrev H5:=@Option.bind_some
abbrev H6:=@Bool.not_false
abbrev H7:=@beq_iff_eq
abbrev H8:=@Option.map_eq_some_iff
abbrev H9:=@Array.getElem?_eq_none
abbrev I0:=@List.isPrefixOf_iff_prefix
abbrev I1:=@Nat.le_of_ble_eq_true
abbrev I2:=@decide_false
abbrev I3:=@Prod.mk.injEq
abbrev I4:=@Bool.and_true
abbrev I5:=@List.getElem?_append
abbrev I6:=@List.length_eq_zero_iff
abbrev I7:=@Nat.add_sub_cancel_left
abbrev I8:=@and_true
abbrev I9:=@List.takeWhile_cons_of_pos
abbrev J0:=@List.drop_drop
abbrev J1:=@List.contains_iff_mem
abbrev J2:=@List.set_append_right
abbrev J3:=@List.sum_append
abbrev J4:=@Nat.mul_le_mul_right
abbrev J5:=@Nat.add_zero
abbrev J6:=@Option.isSome_iff_exists
abbrev J7:=@Array.getElem?_setIfInBounds_ne
abbrev J8:=@List.drop_succ_cons
abbrev J9:=@List.replicate_zero
abbrev K7:=@List.take_zero
abbrev K8:=@Nat.mul_one
abbrev K9:=@Nat.zero_le
abbrev L0:=@List.filter_eq_nil_iff
abbrev L1:=@List.cons.injEq
abbrev L2:=@Array.getElem?_setIfInBounds
abbrev L3:=@List.dropLast_concat_getLast
abbrev L4:=@UInt8.toNat_inj
abbrev L5:=@List.length_singleton
abbrev L6:=@not_false_eq_true
abbrev L7:=@of_decide_eq_true
abbrev L8:=@List.ext_getElem?
abbrev L9:=@List.reverse_cons
abbrev M0:=@Array.getElem?_setIfInBounds_self_of_lt
abbrev M1:=@List.mem_of_mem_drop
abbrev M3:=@List.takeWhile_cons_of_neg
abbrev M4:=@List.getElem?_mapIdx
abbrev M5:=@Nat.sub_self
abbrev M6:=@List.getElem_mem
abbrev M7:=@List.mapIdx_cons
abbrev M8:=@List.mem_or_eq_of_mem_set
abbrev M9:=@Array.length_toList
abbrev N0:=@List.flatMap_append
abbrev N1:=@List.all_append
abbrev N2:=@List.foldl_cons
abbrev N3:=@List.set_cons_succ
abbrev N4:=@Array.all_eq_true'
abbrev N5:=@UInt8.toNat_ofNat'
abbrev N6:=@List.map_replicate
abbrev N7:=@List.getElem?_replicate
abbrev N8:=@List.prefix_iff_eq_take
abbrev N9:=@not_true_eq_false
abbrev O0:=@List.mapM_cons
abbrev O2:=@List.drop_take
abbrev O6:=@Nat.mod_eq_of_lt
abbrev O7:=@List.any_eq_true
abbrev O8:=@Array.eq_empty_of_size_eq_zero
abbrev O9:=@Bool.not_true
abbrev P0:=@decide_true
abbrev P1:=@Array.mem_toList_iff
abbrev P2:=@List.mem_cons_of_mem
abbrev P3:=@List.getElem?_set_ne
abbrev P4:=@List.mem_of_mem_take
abbrev P5:=@Nat.le_succ
abbrev P6:=@Nat.le_antisymm
abbrev P7:=@Bool.eq_iff_iff
abbrev P8:=@Int.natCast_mul
abbrev P9:=@List.range_succ
abbrev Q0:=@Array.getElem?_push
abbrev Q1:=@List.length_pos_iff
abbrev Q2:=@List.dropWhile_cons
abbrev Q3:=@List.reverse_append
abbrev Q4:=@Nat.add_comm
abbrev Q5:=@List.map_map
abbrev Q6:=@Nat.le_of_lt
abbrev Q7:=@List.sum_nil
abbrev Q8:=@List.count_pos_iff
abbrev Q9:=@BitVec.toNat_ofInt
abbrev R1:=@Int.fdiv_eq_ediv_of_nonneg
abbrev R2:=@Option.isNone_iff_eq_none
abbrev R3:=@List.mem_of_find?_eq_some
abbrev R4:=@Array.getElem_mem
abbrev R5:=@List.mapM_toArray
abbrev R6:=@Bool.false_or
abbrev R7:=@Array.size_setIfInBounds
abbrev R8:=@true_and
abbrev R9:=@Option.getD_none
abbrev S7:=@List.countP_cons
abbrev S8:=@Nat.lt_or_ge
abbrev S9:=@List.head?_eq_getElem?
abbrev T0:=@List.map_set
abbrev T1:=@List.mem_filter
abbrev T2:=@List.nodup_cons
abbrev T3:=@Array.getElem?_modify
abbrev T4:=@Array.mem_of_getElem?
abbrev T5:=@List.countP_replicate
abbrev T6:=@List.takeWhile_prefix
abbrev T7:=@List.nodup_nil
abbrev T8:=@cond_false
abbrev T9:=@Nat.mod_lt
abbrev Ur:=@cond_true
theorem Us {P:Prop}(h:P:=by
 simp only[go_sem]
 refine⟨_,ab.refl _,?_⟩
 simp only[go_sem]
 exact bi.nil (fun i hi=>⟨nt ((fr i hi).1),nt ((fr i hi).2)⟩) (rs':=[bv false]) ⟨_,_,rfl,.one (.d _),rfl⟩ ⟨rfl,rfl,rfl⟩):P:=h
theorem Ut {P:Prop}(h:P:=by
 cases yt
 ·simp only[x9,B4] at hza
  subst hza
  exact Us
 simp only[go_sem,q0,q4,o4]
 refine bX aa rfl hel (by simp only[go_sem];rfl) (B+65) a6 (fun i hi=>nt (hfr i a6)) ((E.mono hB fr).mono hB fun i hi=>⟨nu,nu⟩) ?_
 cases ye
 ·simp only[x9,B4] at hza
  subst hza
  exact Us
 simp only[u7] at hza
 simp only[go_sem,q11,hw]
 refine ac (m-1) a6 ⟨k+1,a6,hza,?_⟩
 simp only[go_sem,q0,q4,q9,q10,o4]
 exact⟨fun j hj=>⟨nt ((fr j hj).1),nt ((fr j hj).2)⟩,fun j hj=>nt (hfr j hj)⟩):P:=h
theorem Uu {P:Prop}(h:P:=by
 refine bX aa rfl (hes 1) (by simp only[go_sem];rfl) (B+65) a6 (fun i hi=>nt (hfr i a6)) ((E.mono hB fr).mono hB fun i hi=>⟨nu,nu⟩) ?_
 cases hye2:eU fs 1 es
 ·rw[hye2] at hza
  simp only[x9,B4] at hza
  subst hza
  exact Us
 rw[hye2] at hza
 simp only[u7] at hza
 simp only[go_sem,q0,q4,o4]
 refine bX aa rfl hth (by simp only[go_sem];rfl) (B+65) a6 (fun i hi=>nt (hfr i a6)) ((E.mono hB fr).mono hB fun i hi=>⟨nu,nu⟩) ?_
 exact Ut):P:=h
theorem Uv {P:Prop}(h:P:=by
 refine eA (f:=256) rfl (by simp only[go_sem]) (by simp only[go_sem];exact iq _) (by simp only[go_sem];rfl) ?_
 rintro _ rfl
 simp only[go_sem]
 exact⟨_,ee rfl,rfl⟩):P:=h
theorem Uw {P:Prop}(h:P:=by
 refine this.mono fun e w' hE=>?_
 rcases hE with⟨v,r,g',ob',β',he,hR,hv,h1,h2,h3⟩|⟨ch,g',ob',β',he,hΨ,h1,h2,h3⟩
 ·subst he
  obtain⟨k1,k2⟩:=iD hr hdst hv h1 h2 h3
  exact⟨k1.defers,hn _ β' _ w' ⟨r,g',ob',hR,rfl⟩ k1 (hΦ _ _ _ _ _ _ _ hφ k2)⟩
 ·subst he
  have hk:eV b₀ β s.gen s.obj w β' g' ob' w':=h3.keep
  have ht:Tr b₀ β s w β' ⟨s.f,g',ob'⟩ w':=⟨h3.size,h3.old,hk,h3.os⟩
  exact hx' ch ⟨s.f,g',ob'⟩ β' a w' (hx _ _ _ hΨ) ⟨hr.defers,hr.size,fun i=>ag.keep hk _ (hr.f i),h1,h2,B1 hr.base h3.size⟩ (hΦ _ _ _ _ _ _ _ hφ ht)):P:=h
theorem Ux {P:Prop}(h:P:=by (try simp only[upd]);(repeat rw[if_neg (by omega)])):P:=h
theorem Uy {P:Prop}(h:P:=by
 intro r g2 ob2 S2 K2
 simp only[go_sem]
 refine⟨_,ab.refl _,?_⟩
 simp only[go_sem]
 exact S.pack S2 (K0.trans (ct.down (K1.trans K2) a6)) (by simp only[aq,al,au,Emit.kD,Emit.lV,j5,j6,j7,r0,l9,y8]) (by simp only[aq,al,au,Emit.kD,Emit.lV,j5,j6,j7,r0,l9,y8]) (rs':=[]) rfl):P:=h
theorem Uz {P:Prop}(h:P:=by
 refine⟨_,ab.refl _,?_⟩
 simp only[go_sem]
 exact bi.nil (fun i hi=>⟨nu,nu⟩) (rs':=[iv .i64 0]) ⟨_,_,rfl,.one (.d _),rfl⟩ ⟨rfl,rfl,rfl⟩):P:=h
theorem UA {P:Prop}(h:P:=by
 have hargs:∀l:List Operand,(l.map s.ev).all eF=true→RVs (Imm b₀ β s.obj w) w (l.map s.ev) (l.map a.eval):=by
  intro l
  induction l with
  |nil=>intro _;simp only[v7,RVs]
  |cons x l ih=>
    intro h
    simp only[l6,D4,s6] at h
    simp only[l6,RVs]
    exact⟨_,_,rfl,ag.data h.1 (hr.ev x),ih h.2⟩
 have:=hp.2 (Imm b₀ β s.obj w) w (args.toList.map a.eval) (hG _ _ _ _ hφ).2 (fun _ h=>h.1) (hargs _ hd)
 rw[show (args.toList.map a.eval).toArray=args.map a.eval from G7 a7] at this
 refine this.mono fun e w' ⟨v,r,he,hR,hs,hh,hos,hv⟩=>?_
 subst he
 obtain⟨g1,g2⟩:=hr.grow hs hh hos
 have g3:=g2.trans (Tr.same (St.put_gen s op.dst r) (St.put_obj s op.dst r) rfl)
 have h1:=g1.put hdst (RV.rep r (RV.mono (fun b hb=>⟨rX hr (J:=fun b=>Imm b₀ β s.obj w b∨b≤gb) (fun b h=>h.elim id (sP hr (hG _ _ _ _ hφ))) hb,rfl⟩) r hv))
 exact⟨h1.defers,hn _ β _ w' ⟨r,hR,rfl⟩ h1 (hΦ _ _ _ _ _ _ _ hφ g3)⟩):P:=h
theorem UB {P:Prop}(h:P:=by
 rw[hdr2,dS] at hzb
 have hkn:=Bz (fs:=fs) (gr:=gr) (gm:=gm) (szE x2) x2 (j8 _) a6
 obtain⟨y,hy⟩:∃y,jO fs x2=y:=⟨_,rfl⟩
 rw[hy] at hzb hkn
 obtain⟨kd1,op1,num1,name1,kids1⟩:=x2
 have hE2:exD (.mk kd1 op1 num1 name1 kids1)=[.int .i64 kd1,.int .i64 op1,.int .u32 num1,.str name1,.sl (kids1.map exD)]:=by simp only[exD,aH]
 simp only[go_sem,q0,q33,q34,q35,hki2,hk02,he2,hE2]
 refine bX aa rfl hkn (by simp only[go_sem,exV,hE2,l6,v7]) (B+57) a6 (fun i hi=>nt (hfr i a6)) ((E.mono hB fr).mono hB fun i hi=>⟨nu,nu⟩) ?_
 cases y
 ·simp only[x9] at hzb
  subst hzb
  exact Us
 ·simp only[u7] at hzb
  simp only[go_sem,q35,hw2]
  refine ac (m2-1) a6 ⟨n+1,a6,hzb,?_⟩
  simp only[go_sem,q0,q6,q9,q10,q11,q33,q34,o6]
  exact⟨fun j hj=>⟨nt ((fr j hj).1),nt ((fr j hj).2)⟩,fun j hj=>nt (hfr j hj)⟩):P:=h
theorem UC {P:Prop}(h:P:=by
 have:(vs.toArray++Array.replicate (fn.ntmps-vs.toArray.size) undef).getD i undef=undef:=by
  rw[s9,E8 (by simp;omega)]
  simp[C0]
  split <;> rfl
 rw[this]
 exact cH):P:=h
theorem UD {P:Prop}(h:P:=by
 rw[hdr,dS] at hza
 have hih:=ih (szE e) a6 e (j8 _) a6
 obtain⟨y,hy⟩:∃y,jO fs e=y:=⟨_,rfl⟩
 rw[hy] at hza hih
 obtain⟨kd1,op1,num1,name1,kids1⟩:=e
 have hE:exD (.mk kd1 op1 num1 name1 kids1)=[.int .i64 kd1,.int .i64 op1,.int .u32 num1,.str name1,.sl (kids1.map exD)]:=by simp only[exD,aH]
 simp only[go_sem,q0,q9,q10,q11,hki,hk0,he,hE]
 refine bX aa rfl hih (by simp only[go_sem,exV,hE,l6,v7]) (B+36) a6 (fun i hi=>nt (hfr i a6)) ((E.mono hB fr).mono hB fun i hi=>⟨nu,nu⟩) ?_
 cases y
 ·rw[x9] at hza
  subst hza
  exact Us
 ·rw[u7] at hza
  simp only[go_sem,q11,hw]
  refine ac (m-1) a6 ⟨k+1,a6,hza,?_⟩
  simp only[go_sem,q0,q9,q10]
  exact⟨fun j hj=>⟨nt ((fr j hj).1),nt ((fr j hj).2)⟩,fun j hj=>nt (hfr j hj)⟩):P:=h
theorem UE {P:Prop}(h:P:=by
 simp only[Oper.upon]
 have hargs:∀l:List Operand,(l.map s.ev).all eF=true→RVs (Imm b₀ β s.obj w) w (l.map s.ev) (l.map a.eval):=by
  intro l
  induction l with
  |nil=>intro _;simp only[v7,RVs]
  |cons x l ih=>
    intro h
    simp only[l6,D4,s6] at h
    simp only[l6,RVs]
    exact⟨_,_,rfl,ag.data h.1 (hr.ev x),ih h.2⟩
 have:=hp.2 (Imm b₀ β s.obj w) w (args.toList.map a.eval) (fun _ h=>h.1) (hargs _ hd)
 rw[show (args.toList.map a.eval).toArray=args.map a.eval from G7 a7] at this
 refine this.mono fun e w' ⟨v,r,he,hR,hs,hh,hos,hv⟩=>?_
 subst he
 obtain⟨g1,g2⟩:=hr.grow hs hh hos
 refine hn _ β _ w' ⟨r,hR,rfl⟩ (g1.put hdst (RV.rep r (RV.mono (fun b hb=>⟨rX hr (fun _ h=>h) hb,rfl⟩) r hv))) (g2.trans (Tr.same (St.put_gen _ _ _) (St.put_obj _ _ _) rfl))):P:=h
theorem UF {P:Prop}(h:P:=by
 have:∀(es:List (List D)) (_:∀e∈es,e.length=sz) i,es[i]? = some e→es.flatten[i*sz+j]? = some x:=by
  intro es
  induction es with
  |nil=>intro _ i h;simp at h
  |cons e' es ihe=>
    intro hs i h
    have hl:=hs e' a7
    cases i with
    |zero=>
      simp at h
      subst h
      rw[E5,G6 (by simpa using(l0.1 hx).1)]
      simpa using hx
    |succ i=>
      rw[E5,F6 (by rw[hl,D9];omega),hl,show (i+1)*sz+j-sz=i*sz+j by rw[D9];omega]
      exact ihe (fun e h=>hs e (by simp[h])) i (by simpa using h)
 exact this es hsz i he):P:=h
theorem UG {P:Prop}(h:P:=by
 obtain rfl:z=false:=by
  have:¬el=[]:=fun e=>by rw[e] at hel;exact absurd hel a8
  rw[←hz];simp[cl,this]
 simp only[go_sem,hlv,j4,hel]):P:=h
theorem UH {P:Prop}(h:P:=by
 subst hza
 simp only[go_sem,q10,q11,hki]
 refine⟨_,ab.refl _,?_⟩
 simp only[go_sem]
 exact bi.nil fr (rs':=[bv true]) ⟨_,_,rfl,.one (.d _),rfl⟩ ⟨rfl,rfl,rfl⟩):P:=h
theorem UI {P:Prop}(h:P:=by exact⟨fun j hj=>⟨nt ((fr j hj).1),fun h5 h6=>nt ((fr j hj).2 h5 h6)⟩,fun j hj=>nt (hfr j hj)⟩):P:=h
theorem UJ {P:Prop}(h:P:=by
 have e1:=congrFun hset
 simp only[upd] at e1
 rw[e1] at hj ⊢
 by_cases hej:e.on=i
 ·rw[if_pos hej]
 ·rw[if_neg hej]
  by_cases hji:j=i
  ·subst hji
   rw[ho] at hoj
   cases hoj
   exact hedge e he hb
  ·rw[if_neg hji] at hj
   exact hid j o' hj hoj e he hb):P:=h
theorem UK {P:Prop}(h:P:=by
 intro g2 ob2 p2 q2 r2
 simp only[go_sem]
 refine bG (fun i=>decide (K≤i)) ?_
 exact⟨rfl,hfin _ rfl _ _ p2⟩):P:=h
theorem UL {P:Prop}(h:P:=by
 rw[hf] at mo1
 simp only[y1,thD] at mo1
 simp only[go_sem,n1,n2,n3,jV,hcm,hm,C1,B5,mo1,hcu]
 refine⟨_,ab.refl _,?_⟩
 simp only[go_sem]
 refine bi.two (ca:=M) (cb:=[.d (.bool false)]) (fun i hi ha hb=>⟨by (try simp only[upd]);(repeat rw[if_neg (by omega)]),by (try simp only[upd]);(repeat rw[if_neg (by omega)])⟩) (by (try simp only[upd]);(repeat rw[if_neg (by omega)])) (by (try simp only[upd]);(repeat rw[if_neg (by omega)])) (by simp only[upd];(repeat rw[if_neg (by omega)]);exact hm) (by simp[upd]) hd.low CC (rs':=[]) rfl ⟨rfl,M,mo.old hf,hd,by rw[hf];simp⟩):P:=h
theorem UM {P:Prop}(h:P:=by
 intro r g4 ob4 S4 K4
 simp only[go_sem]
 refine⟨_,ab.refl _,?_⟩
 simp only[go_sem]
 exact S.pack S4 (K0.trans (ct.down (K1.trans (K2.trans (K3.trans K4))) a6)) (by simp only[aq,al,au,Emit.kD,Emit.lV,j5,j6,j7,r0,l9,y8]) (by simp only[aq,al,au,Emit.kD,Emit.lV,j5,j6,j7,r0,l9,y8]) (rs':=[]) rfl):P:=h
theorem UN {P:Prop}(h:P:=by
 obtain rfl:z=false:=by
  have:¬th=[]:=fun e=>by rw[e] at hth;exact absurd hth a8
  rw[←hz];simp[cl,this]
 simp only[go_sem,hlv,j4,hel,hth]):P:=h
theorem UO {P:Prop}(h:P:=by simp only[go_sem]):P:=h
theorem UP {P:Prop}(h:P:=by exact fun _ _ _ h=>h.elim):P:=h
theorem UQ {P:Prop}(h:P:=by
 cases yt
 ·simp only[x9] at hzb
  subst hzb
  exact Us
 simp only[go_sem,q0,q6,o6]
 refine bX aa rfl hel (by simp only[go_sem];rfl) (B+57) a6 (fun i hi=>nt (hfr i a6)) ((E.mono hB fr).mono hB fun i hi=>⟨nu,nu⟩) ?_
 cases ye
 ·simp only[x9,B4] at hzb
  subst hzb
  exact Us
 simp only[u7] at hzb
 simp only[go_sem,q11,hw]
 refine ac (m-1) a6 ⟨k+1,a6,hzb,?_⟩
 simp only[go_sem,q0,q9,q10]
 exact⟨fun j hj=>⟨nt ((fr j hj).1),nt ((fr j hj).2)⟩,fun j hj=>nt (hfr j hj)⟩):P:=h
theorem UR {P:Prop}(h:P:=by
 simp only at q0 q6 q9 q10 q11 q33 q34 q35 o6 fr hfr
 have hw2:=ae (k:=n) a6
 by_cases hlt2:n<es.length
 ·have hki2:(n:Int)<(es.length:Int):=a6
  have hk02:(0:Int)≤(n:Int):=a6
  obtain⟨x2,he2⟩:=getq hlt2
  have hsz2:=Src.Jf (l4 he2)
  have hdr2:es.drop n=x2::es.drop (n+1):=by rw[y9 hlt2,(l0.1 he2).2]
  exact UB
 have hki2:¬(n:Int)<(es.length:Int):=a6
 obtain rfl:n=es.length:=a6
 rw[D7,dS,u7] at hzb
 simp only[go_sem,q0,q6,q34,q35,hki2,o6]
 refine bX aa rfl hth (by simp only[go_sem];rfl) (B+57) a6 (fun i hi=>nt (hfr i a6)) ((E.mono hB fr).mono hB fun i hi=>⟨nu,nu⟩) ?_
 exact UQ):P:=h
theorem US {P:Prop}(h:P:=by
 refine ai (fun m st=>∃n:Nat,m+n=es.length∧(dS fs (es.drop n)&&(yt&&ye)&&dU fs (l.drop (k+1)))=z∧st.f 0=.one (.ptr 1012 gr 0)∧st.f 6=.one (.ptr (B+6) (st.gen (B+6)) 0)∧st.f 11=.one (.d (.sl (l.map smD)))∧st.f 12=iv .i64 l.length∧st.f 13=iv .i64 k∧st.f 33=.one (.d (.sl (es.map exD)))∧st.f 34=iv .i64 es.length∧st.f 35=iv .i64 n∧
   st.obj (B+6)=some [.d (.int .i64 kind),.d (.str name),.d (.sl (es.map exD)),.d (.sl (th.map smD)),.d (.sl (el.map smD))]∧(∀j,j<B→st.gen j=g j∧st.obj j=ob j)∧(∀j,B+57≤j→st.obj j=none)) es.length ?_ ?_
 ·refine⟨0,rfl,by rw[B3];exact hza,?_⟩
  simp only[go_sem,q0,q9,q10,q11,n1,n2]
  exact⟨fun j hj=>⟨nt ((fr j hj).1),nt ((fr j hj).2)⟩,fun j hj=>nt (hfr j hj)⟩
 clear q0 q9 q10 q11 fr hfr or om mM mo1 hgr hgm
 rintro m2 f g1 ob1 ⟨n,hn,hzb,q0,q6,q9,q10,q11,q33,q34,q35,o6,fr,hfr⟩
 exact UR):P:=h
theorem UT {P:Prop}(h:P:=by exact pX hz (by simp[upd]) (by simp[upd,exC,exD])):P:=h
theorem UU {P:Prop}(h:P:=by
 obtain⟨v,h1,h2⟩:=hv.get hx
 have hlt:i<vs.length:=(l0.1 h1).1
 have:(vs.toArray++Array.replicate (fn.ntmps-vs.toArray.size) undef).getD i undef=v:=by
  rw[s9,D5 (by simpa using hlt)]
  simp[h1]
 rw[this]
 simpa only[y7] using h2):P:=h
theorem UW {P:Prop}(h:P:=by
 rintro _ g' ob' ⟨rfl,rfl⟩
 simp only[go_sem,q22,hw]
 refine ac (m-1) a6 ⟨k+1,a6,?_⟩
 simp only[go_sem,q1,q3,q5,q6,q20,q21,e1.1,e13.1,e5.1,e6.1,e1.2,e13.2]
 refine⟨?_,?_,⟨M,rfl,mM⟩,fun j hj=>?_⟩
 ·rw[kF _ he,←D0,h5,kO,hu]
  first|rfl|(simp;done)|(rw[u7];rfl)
 ·rw[kF _ he,h6]
  rfl
 ·(try simp only[upd]);(repeat rw[if_neg (by omega)])
  rw[(fr j (.inr a6)).2]
  (try simp only[upd]);(repeat rw[if_neg (by omega)])
  exact hfr j a6):P:=h
theorem UX {P:Prop}(h:P:=by
 refine⟨a6,?_⟩
 simp only[go_sem,p49,hwj]
 refine ac (m-1) a6 ⟨j+1,a6,?_⟩
 simp only[go_sem,p0,p6,p47,p48,hwj,n1,n3,m1,hg5,gC5]
 refine⟨by rw[hfin _ hpv],X5c.to (fun i hi=>?_) (fun i hi=>⟨?_,?_⟩),fun i hi h1 h2 h3 h4 h5=>⟨?_,?_⟩⟩
 ·exact nt (F5.S.top i hi)
 ·have:i≠B+8:=a6
  exact Ux
 ·have:i≠B+8:=a6
  have:i≠B+37:=a6
  exact Ux
 ·exact nt ((O5 i hi h1 h2 h3 h4 h5).1)
 ·exact nt ((O5 i hi h1 h2 h3 h4 h5).2)):P:=h
theorem UY {P:Prop}(h:P:=by
 have hall:∀i,i<ops.size→listed.getD i true=true:=fun i hi=>by
  have hnf:false∉listed.toList:=fun h=>by
   have:=Q8.2 h;omega
  rw[s9,z6 a6]
  simp only[y7]
  cases hq:listed[i]'a6 with
  |true=>rfl
  |false=>exact absurd (hq▸P1.2 (R4 a6)) hnf
 have hrd:Region.ready .any ops listed=[]:=by
  unfold Region.ready
  rw[L0]
  intro i hi
  simp[hall i (D3.1 hi)]
 exact⟨hrd,hQ _ s β a w hI hr hφ ⟨listed,rfl,hsz,hrd⟩⟩):P:=h
theorem UZ {P:Prop}(h:P:=by
 intro a2 q2 h2
 have e:=hlook ⟨_,_,h2⟩
 rw[h2] at e
 cases e
 simp only[go_sem,n1,n2]
 exact hK ⟨_,_,h2⟩):P:=h
theorem U0 {P:Prop}(h:P:=by
 intro g2 ob2 p2 q2 r2
 simp only[go_sem]
 refine bG (fun i=>decide (K≤i)) ?_
 exact⟨rfl,hfin _ _ _ p2⟩):P:=h
theorem U1 {P:Prop}(h:P:=by
 refine bX aa rfl (hes 2) (by simp only[go_sem];rfl) (B+65) a6 (fun i hi=>nt (hfr i a6)) ((E.mono hB fr).mono hB fun i hi=>⟨nu,nu⟩) ?_
 cases hye2:eU fs 2 es
 ·rw[hye2] at hza
  simp only[x9,B4] at hza
  subst hza
  exact Us
 rw[hye2] at hza
 simp only[u7] at hza
 simp only[go_sem,q0,q4,o4]
 refine bX aa rfl hth (by simp only[go_sem];rfl) (B+65) a6 (fun i hi=>nt (hfr i a6)) ((E.mono hB fr).mono hB fun i hi=>⟨nu,nu⟩) ?_
 exact Ut):P:=h
theorem U2 {P:Prop}(h:P:=by
 obtain rfl:z=false:=by rw[←hz];simp[bE,hop]
 simp only[go_sem,hlv,hop]):P:=h
theorem U3 {P:Prop}(h:P:=by
 obtain⟨fn,h1,h2,h3⟩:=hp.1
 have h2:¬fn.body=none:=by intro h;rw[h] at h2;simp at h2
 have h3:¬fn.name = "runtime.NumGoroutine":=by simpa using h3
 simp[execOp,ho,resolve,Act.eval,hv1,Deferred.ofValue,invoke,callFunc,h1,h2,h3]):P:=h
theorem U4 {P:Prop}(h:P:=by
 obtain⟨fn,h1,h2,h3⟩:=hp.1
 have h2:¬fn.body=none:=by intro h;rw[h] at h2;simp at h2
 have h3:¬fn.name = "runtime.NumGoroutine":=by simpa using h3
 simp[execOp,ho,resolve,Act.eval,hv,Deferred.ofValue,invoke,callFunc,h1,h2,h3]):P:=h
theorem U5 {P:Prop}(h:P:=by
 rw[hend]
 rcases q5 with⟨rfl,q5⟩|⟨hne,q5,o5⟩
 ·simp only[go_sem,q0,q6,q5,hlti]
  exact⟨_,⟨_,⟨_,_,rfl,dv .nsl,_,_,rfl,dv _,_,_,rfl,dv _,rfl⟩,rfl⟩,rfl⟩
 ·simp only[go_sem,q0,q6,q5,hlti]
  exact⟨_,⟨_,⟨_,_,rfl,BO (dK rfl l gK (by simp[upd,o5,qb]) rfl (fun t _ x hx=>by simp only[gK,y2,z7,D6] at hx;rcases hx with rfl|rfl|rfl|rfl <;> rfl) (fun _ _=>rfl) rfl),_,_,rfl,dv _,_,_,rfl,dv _,rfl⟩,rfl⟩,rfl⟩):P:=h
theorem U6 {P:Prop}(h:P:=by
 simp only[go_sem,hlv,hop,hnu,hnm]
 by_cases hkn:(kids.length:Int)=2
 case neg=>
  obtain rfl:z=false:=by
   have:¬kids.length=2:=a6
   rw[←hz];simp[bE,this]
  simp only[go_sem,j4,hkn]
 simp only[go_sem,j4,hkn,hwl]
 refine cP rfl (by simp only[go_sem,hwl];exact hK) ?_
 rintro _ rfl
 obtain rfl:z=bp (lv+1) kids:=by
  have:kids.length=2:=a6
  rw[←hz];simp[bE,aj,hle,this,hnm,hnu,hop]
 exact UO):P:=h
theorem U7 {P:Prop}(h:P:=by
 unfold eT
 refine PR.bind_cong rfl fun t m e=>?_
 have hm:=cn _ _ e
 refine PR.bind_cong ?_ fun _ _ _=>rfl
 split
 ·rw[cT k 1 (m+1) a6 a6]
 split
 ·refine PR.bind_cong (cT k 1 (m+1) a6 a6) fun _ q e'=>PR.bind_cong rfl fun _ q' e2=>PR.bind_cong (cT k 1 q' a6 ?_) fun _ _ _=>rfl
  have:=bI _ _ _ _ _ e'
  have:=aI _ _ e2
  omega
 split
 ·rw[pK k (m+1) a6]
 ·rfl):P:=h
theorem U8 {P:Prop}(h:P:=by
 obtain rfl:z=false:=by rw[←hz];simp[bE,hnu]
 simp only[go_sem,hlv,hop,hnu]):P:=h
theorem U9 {P:Prop}(h:P:=by
 have hw:=ae (k:=k) a6
 by_cases hlt:k<kids.length
 case neg=>
  have hki:¬(k:Int)<(kids.length:Int):=a6
  obtain rfl:k=kids.length:=a6
  rw[D7,dS] at hza
  exact UH
 have hki:(k:Int)<(kids.length:Int):=a6
 have hk0:(0:Int)≤(k:Int):=a6
 obtain⟨e,he⟩:=getq hlt
 have hsz1:=Src.Jf (l4 he)
 have hdr:kids.drop k=e::kids.drop (k+1):=by rw[y9 hlt,(l0.1 he).2]
 exact UD):P:=h
theorem Va {P:Prop}(h:P:=by
 have g3_1:g1 (B+3)=gI:=(K1.gen (B+3) a6 a6 a6).trans (by simp only[upd];rw[if_pos trivial])
 simp only[go_sem,p3_1,g3_1]
 refine aP aa rfl (ma hP 1 0 a8) (B+10) G D H gG _ _ (by first|rfl|simp only[go_sem,p3_1,g3_1,bD]) hg1 S1 (by first|exact hl|((try simp only[aq,al,au,Emit.kD,Emit.lV,j5,j6,j7]);omega)) (by first|exact hh|((try simp only[aq,al,au,Emit.kD,Emit.lV,j5,j6,j7,l9]);omega)) ?_
 exact Uy):P:=h
theorem Vb {P:Prop}(h:P:=by
 simp only[w9,w7,s5,s7] at hop;subst hop
 simp only[go_sem,k3,k8,k9,hc]
 exact r9):P:=h
theorem Vc {P:Prop}(h:P:=by
 refine bX aa rfl h (by simp only[go_sem];rfl) (B+20) a6 (fun i hi=>nt (hf i a6)) (E.mono hB fun i hi=>⟨nu,nu⟩) ?_
 simp only[go_sem]
 cases eU fs 1 kids
 ·simp only[go_sem]
  exact Uz
 ·simp only[go_sem]
  refine⟨_,ab.refl _,?_⟩
  simp only[go_sem]
  exact bi.nil (fun i hi=>⟨nu,nu⟩) (rs':=[iv .i64 1]) ⟨_,_,rfl,.one (.d _),rfl⟩ ⟨rfl,rfl,rfl⟩):P:=h
theorem Vd {P:Prop}(h:P:=by
 have hji:(j:Int)<(out.length:Int):=a6
 have hj0:(0:Int)≤(j:Int):=a6
 obtain⟨v,hv⟩:=getq hlj
 have hvb:=hov v (l4 hv)
 simp only[go_sem,f57,f58,f59,f8,hji,hj0,hv,hwj,j4]
 rw[y9 hlj,Emit.vY,show out[j]=v from(l0.1 hv).2] at hdp
 refine dE (m-1) a6 ⟨j+1,max dp v,a6,hdp,a6,a6,?_⟩
 simp only[go_sem,f1,f2,f3,f20,f21,f4,f57,f58,o1,o2,o3,o34,o41,o55]):P:=h
theorem Ve {P:Prop}(h:P:=by
 simp only[w9,w7,s5,s7] at hop;subst hop
 simp only[go_sem,k3,k9,hc]
 exact r9):P:=h
theorem Vf {P:Prop}(h:P:=by
 obtain⟨v,h1,h2⟩:=hget _ _ hv i x hx
 have hlt:i<vs.length:=(l0.1 h1).1
 have:(vs.toArray++Array.replicate (fn.ntmps-vs.toArray.size) undef).getD i undef=v:=by
  rw[s9,D5 (by simpa using hlt)]
  simp[h1]
 rw[this]
 simp only[y7]
 exact RV.rep x (RV.mono (fun b hb=>⟨⟨hJ b hb,fun _=>hb,fun id a ho=>by cases ho⟩,rfl⟩) x h2)):P:=h
theorem Vg {P:Prop}(h:P:=by
 refine cP rfl (by simp only[go_sem];exact hD) ?_
 rintro _ rfl
 simp only[go_sem,q1,q4,q4o,q5,q5o,q6,hk0,hlti]
 refine⟨by simp only[j5,j6,hpl];omega,by simp only[j5,j6,hol];omega,?_⟩
 simp only[go_sem,q6,hw]
 refine fE m a6 ⟨k+1,a6,?_⟩
 simp only[go_sem,q1,q1g,q1o,q4,q5]
 exact⟨by rw[hs4,hi1],by rw[hs1,ho1]⟩):P:=h
theorem Vh {P:Prop}(h:P:=by
 refine⟨_,ab.refl _,?_⟩
 simp only[go_sem]
 exact bi.nil (fun i hi=>⟨nt ((fr i hi).1),nt ((fr i hi).2)⟩) (rs':=[bv false]) ⟨_,_,rfl,.one (.d _),rfl⟩ ⟨rfl,rfl,rfl⟩):P:=h
theorem Vi {P:Prop}(h:P:=by
 obtain⟨h1,h2,h3⟩:=h
 refine⟨h1,B1 h2 (hk.gen id),fun hg ho=>?_⟩
 have e:g' id=g id:=P6 a6 (hk.gen id)
 obtain⟨l1,l2,_⟩:=hk.live id e ho
 rw[l2];exact h3 a6 l1):P:=h
theorem Vj {P:Prop}(h:P:=by exact⟨z,cv,h1,fun w' hw'=>by simp[execOp,h2 w' hw'],h3⟩):P:=h
theorem Vk {P:Prop}(h:P:=by
 by_cases h2:x.op=3∨x.op=9∨x.op=13
 ·omega
 by_cases h3:x.op=4∨x.op=7
 ·omega
 by_cases h4:x.op=5
 ·omega
 by_cases h5:x.op=6
 ·omega
 by_cases h6:x.op=8
 ·omega
 by_cases h7:x.op=10
 ·omega
 by_cases h8:x.op=11
 ·omega
 rw[if_neg h1,if_neg h2,if_neg h3,if_neg h4,if_neg h5,if_neg h6,if_neg h7,if_neg h8] at h
 cases h):P:=h
theorem Vl {P:Prop}(h:P:=by
 refine⟨_,ab.refl _,?_⟩
 simp only[go_sem,n1,n2]
 exact bi.nil (fun i hi=>⟨by (try simp only[upd]);(repeat rw[if_neg (by omega)]);first|done|rfl|exact(hlw i hi).1,by (try simp only[upd]);(repeat rw[if_neg (by omega)]);first|done|rfl|exact(hlw i hi).2⟩) (rs':=[qD (some t)]) ⟨_,_,rfl,CB (thD t),rfl⟩ ⟨rfl,rfl,rfl⟩):P:=h
theorem Vm {P:Prop}(h:P:=by
 rw[hsome i] at hi'
 refine⟨hi',rfl,fun a' ha' arr1 el1 fr1 h1=>?_⟩
 by_cases hb:a'.block=ad.block
 ·rw[hb] at h1 ⊢
  rw[f1] at h1
  cases h1
  exact⟨arr,el,(lo,hi),hblk,a6⟩
 ·rw[heap_setCells_other _ _ _ _ _ hb] at h1
  exact⟨arr1,el1,fr1,h1,j8 _⟩):P:=h
theorem Vn {P:Prop}(h:P:=by
 simp only[go_sem]
 exact hK):P:=h
theorem Vo {P:Prop}(h:P:=by
 refine⟨by simp only[go_sem,q4],by simp only[go_sem,q5],by simp only[go_sem],by simp only[go_sem],by simp only[go_sem,e4,e5,e6],by simp only[go_sem,e4,e5,e6],by simp only[go_sem,hc4,hc5,hc6],fun i hi hic=>?_⟩
 simp only[upd]
 (repeat rw[if_neg (by omega)])
 exact⟨rfl,rfl⟩):P:=h
theorem Vp {P:Prop}(h:P:=by
 obtain rfl:z=false:=by
  have:¬e.length=1:=a6
  rw[←hz];simp[cl,this]
 simp only[go_sem,j4,hn]):P:=h
theorem Vq {P:Prop}(h:P:=by
 refine⟨_,ab.refl _,?_⟩
 simp only[go_sem]
 exact bi.nil (fun i hi=>⟨nu,nu⟩) (rs':=[iv .i64 2]) ⟨_,_,rfl,.one (.d _),rfl⟩ ⟨rfl,rfl,rfl⟩):P:=h
theorem Vr {P:Prop}(h:P:=by
 intro r g1 ob1 S1 K1
 simp only[go_sem]
 refine⟨_,ab.refl _,?_⟩
 simp only[go_sem]
 exact S.pack S1 (K0.trans (ct.down K1 a6)) rfl rfl (rs':=[]) rfl):P:=h
theorem Vs {P:Prop}(h:P:=by
 refine⟨y,cv,q1,fun w' hw'=>?_,q3⟩
 have q2:=q2 w' hw'
 simp only[Sem.run_pure,Result.ok.injEq,I8] at q2
 subst q2
 have hf:(Instr.findKey kt (dV k0) []).run P w'=.ok none w':=MapKept.run_findKey hk rfl
 simp[Instr.lookup,run_underlying hu,hck,hf,hzr]):P:=h
theorem Vt {P:Prop}(h:P:=by
 refine⟨y,cv,q1,fun w' hw'=>?_,q3⟩
 have q2:=q2 w' hw'
 rw[g2] at q2
 simp only[Sem.run_pure,Result.ok.injEq,I8] at q2
 subst q2
 simp[Instr.lookup,run_underlying hu,MapKept.run_getObj_map (hw'.cells hblk),hck,MapKept.run_findKey hk g1,hzr]):P:=h
theorem Vu {P:Prop}(h:P:=by
 refine⟨0,rfl,⟨?_,?_,?_,?_,?_,?_,?_⟩,?_⟩ <;> (simp only[go_sem,q1,q4,q5,q6,o1,o4,o5,hT0])
 ·rfl
 ·exact fr
 ·exact⟨M,oM,mM,dM⟩):P:=h
theorem Vv {P:Prop}(h:P:=by exact wpIn_mono (hR N β a ds w hc hr hφ) (fun e a' w' ⟨s',β',a0,ds',h0,h1,h2,h3⟩=>⟨s',β',a0,ds',h0,h1.imp (hK _ _) (fun h=>h),h2,h3⟩)):P:=h
theorem Vw {P:Prop}(h:P:=by
 refine gt l7 ?_
 intro K' hK'
 simp only[go_sem]
 refine hK' _ ?_
 clear hK' K'
 simp only[go_sem,q11,hw]
 refine ac (m-1) a6 ⟨k+1,a6,?_⟩
 simp only[go_sem,q2,q9,q10,o2]
 refine⟨by rw[vg he],fun j hj=>⟨nt ((fr j hj).1),nt ((fr j hj).2)⟩,fun j hj=>nt (hfr j hj)⟩):P:=h
theorem Vx {P:Prop}(h:P:=by
 have:(fun i=>(Array.replicate ops.size false).getD i false)=fun _=>false:=by
  funext i
  rw[s9,C0]
  split <;> rfl
 rw[this];exact h0):P:=h
theorem Vy {P:Prop}(h:P:=by
 have e1:List.take acc.length (bm acc)++List.map C.d (List.map (fun s=>([D.str s]:List D)) ls).flatten=bm (acc++ls):=by
  rw[l5 a6,sg]
  simp[bm]
 rw[e1]
 exact⟨j8 _,fun e he=>by obtain⟨x,_,rfl⟩:=F9.1 he;rfl,⟨a8,a6⟩,hK⟩):P:=h
theorem Vz {P:Prop}(h:P:=by
 exfalso
 obtain⟨e,he,ho,htb⟩:=hent i hi
 obtain⟨e',he',ho',htb'⟩:=hent j hj
 simp only[dst,ho,ho',H5] at h1 h2
 rcases(hchk i e hi ho htb).2.1 j e'.o hj a6 ho' with h|h
 ·rw[h] at h2;cases h2
 ·exact h (by rw[h1,h2])):P:=h
theorem VA {P:Prop}(h:P:=by exact⟨_,ab.refl _,rfl,rfl,rfl⟩):P:=h
theorem VB {P:Prop}(h:P:=by
 refine qk (fun i=>p i=true) rfl (fun i=>.inl rfl) (fun i cells' hc=>?_)
 simp only at hc
 by_cases h:p i=true
 ·rw[if_pos h] at hc;cases hc
 ·rw[if_neg h] at hc
  exact⟨h,cells',hc,rfl,fun j c c' e1 e2=>.inl (by rw[e1] at e2;exact(E3 e2).symm)⟩):P:=h
theorem VC {P:Prop}(h:P:=by
 simp only[upd,s9,L2]
 by_cases hj:i=j
 ·subst hj;simp[hsz,hi1]
 ·have:¬j=i:=fun e=>hj e.symm
  simp[hj,this]):P:=h
theorem VD {P:Prop}(h:P:=by
 exact⟨_,_,rfl,.agg (xs:=gK t) rfl (fun i c hc=>by
  match i,hc with
  |0,hc=>cases hc;exact⟨_,rfl,.d _⟩
  |1,hc=>cases hc;exact⟨_,rfl,.d _⟩
  |2,hc=>cases hc;exact⟨_,rfl,.d _⟩
  | 3,hc=>cases hc;exact⟨_,rfl,.d _⟩),rfl⟩):P:=h
theorem VE {P:Prop}(h:P:=by
 simp only[go_sem,j7,v7]
 refine ai (fun m st=>m=0∧st.f 14=.one (.d (.sl []))∧st.f 15=iv .i64 0∧st.f 16=iv .i64 0) 0 ?_ ?_
 ·exact UO
 rintro m f g1 ob1 ⟨rfl,q14,q15,q16⟩
 simp only at q14 q15 q16
 simp only[go_sem,q14,q15,q16]):P:=h
theorem VF {P:Prop}(h:P:=by exact .sl (sz:=sz) (fun _ _=>undef) a7 (fun h=>absurd rfl h) (fun _ h=>by cases h) (fun _ _ h=>by cases h) (fun _ _ h=>by cases h)):P:=h
theorem VG {P:Prop}(h:P:=by
 have e1:List.take vs.length (bm vs)++List.map C.d (List.map (fun s=>([D.str s]:List D)) ls).flatten=bm (vs++ls):=by
  rw[l5 a6,sg]
  simp[bm]
 rw[e1]
 exact⟨j8 _,fun e he=>by obtain⟨x,_,rfl⟩:=F9.1 he;rfl,⟨a8,a6⟩,hK⟩):P:=h
theorem VH {P:Prop}(h:P:=by
 have hty:=(hT t (by rw[hd];rfl)).desc
 rw[hd] at hty
 refine fL h fun w=>?_
 rw[Sem.run_bind,ip _ _ _ _ _ _ a7 a7]
 simp only[binOp,Sem.run_bind,Result.andThen_ok,run_equal_bool hty,Sem.run_pure]
 cases a <;> cases b <;> rfl):P:=h
theorem VI {P:Prop}(h:P:=by
 obtain rfl:z=false:=by
  have:¬kids=[]:=fun e=>hkn (by rw[e];rfl)
  rw[←hz];simp[bE,this]
 simp only[go_sem,j4,hkn]):P:=h
theorem VJ {P:Prop}(h:P:=by
 by_cases hop:op=0
 case neg=>
  exact U2
 by_cases hnu:num=0
 case neg=>
  exact U8
 by_cases hnm:name=[]
 case neg=>
  obtain rfl:z=false:=by rw[←hz];simp[bE,aj,hnm]
  simp only[go_sem,hlv,hop,hnu,hnm]
 exact U6):P:=h
theorem VK {P:Prop}(h:P:=by
 rintro r g' ob' ⟨f1,f2⟩
 simp only[go_sem]
 exact hY (.inr rfl) (fin (fun i hi=>by (try simp only[upd]);repeat (rw[if_neg (by omega)]);try rfl) (fun i hi=>by (try simp only[upd]);repeat (rw[if_neg (by omega)]);try rfl) f1 f2)):P:=h
theorem VL {P:Prop}(h:P:=by exact fB hex ⟨hr'.defers,hn _ β _ w rfl hr' (hΦ _ _ _ _ _ _ _ hφ (Tr.same (St.put_gen _ _ _) (St.put_obj _ _ _) rfl))⟩):P:=h
theorem VM {P:Prop}(h:P:=by
 refine ac (m-1) a6 ⟨k+1,a6,⟨?_,?_,?_,?_,?_,?_,?_⟩,?_⟩ <;> (simp only[go_sem,q1,q4,q5,q6,o1,o4,q16,q17])
 ·rw[hT,jF]
 ·exact fun i hi=>⟨nt ((fr i hi).1),nt ((fr i hi).2)⟩
 ·exact⟨M',rfl,by rw[hT];exact mM',dM'⟩):P:=h
theorem VN {P:Prop}(h:P:=by exact⟨_,dD (k:=0) (v:=0) (e:=3) (n:=0),rfl⟩):P:=h
theorem VO {P:Prop}(h:P:=by
 refine⟨h.1,h0.2.1,fun hg ho=>?_⟩
 obtain⟨l1,l2,l3⟩:=hl id ho
 rw[←l2];exact h.2.2 (by rw[l1];exact hg) l3):P:=h
theorem VP {P:Prop}(h:P:=by
 refine ac (m-1) a6 ⟨k+1,a6,⟨?_,?_,?_,?_,?_,?_,?_⟩,?_⟩ <;> (simp only[go_sem,q1,q4,q5,q6,o1,o4,q16,q17])
 ·rw[hT,jF]
 ·exact fun i hi=>⟨(fr i hi).1,nt ((fr i hi).2)⟩
 ·exact⟨M',rfl,by rw[hT];exact mM',dM'⟩):P:=h
theorem VQ {P:Prop}(h:P:=by
 rw[hq] at hc
 simp only[y1,s7] at hc
 subst hc
 refine⟨_,rfl,?_⟩
 simp only[ay]
 exact bT.of_plain (by have:=hty.plain;rw[x6] at this;exact this x (l4 hq))):P:=h
theorem VR {P:Prop}(h:P:=by exact⟨_,⟨_,⟨_,_,rfl,dv .nsl,_,_,rfl,dv _,_,_,rfl,dv _,rfl⟩,rfl⟩,rfl⟩):P:=h
theorem VS {P:Prop}(h:P:=by
 have h1:=Src.Oe x.word x.body
 have h2:=Src.Jd (fun x:Src.CFn=>Src.mH x.body) hx
 have h3:((ap p).funcs.map fun x=>Src.mH x.body).sum=(p.funcs.map fun f=>Src.bu f.body).sum:=Src.yM _ _ _
 unfold Emit.je
 omega):P:=h
theorem VT {P:Prop}(h:P:=by
 intro g1 ob1 p1 q1 r1
 simp only[go_sem]
 refine iE (fun i=>decide (K≤i)) ?_
 exact⟨rfl,p1.fin hK⟩):P:=h
theorem VU {P:Prop}(h:P:=by exact⟨hr'.defers,v,h1,v,r,rfl,h2,ht.size,fun b hb=>ht.old b hb,ht.os,h3⟩):P:=h
theorem VV {P:Prop}(h:P:=by
 simp only[go_sem,n1,n2] at hK ⊢
 refine aQ (k:=bx K') aa rfl hc2 (by simp only[go_sem,n1,n2];all_goals rfl) (B+101) a6 (fi hf1) (by simp only[go_sem,n1,n2]) ?_
 simp only[go_sem,n1,n2]
 exact hK):P:=h
theorem VW {P:Prop}(h:P:=by
 simp only[r0,A0,y8] at this ⊢
 exact this):P:=h
theorem VX {P:Prop}(h:P:=by exact wp_mono (hR b₀ N β a w hc hr) (fun e a' w' ⟨s',β',h1,h2,h3⟩=>⟨s',β',hK _ _ h1,h2,h3⟩)):P:=h
theorem VY {P:Prop}(h:P:=by
 simp only at h1 h2 ⊢
 omega):P:=h
theorem VZ {P:Prop}(h:P:=by
 refine⟨_,ab.refl _,?_⟩
 simp only[go_sem]
 exact S.pack S1 (K1.down a6) rfl rfl (rs':=[]) rfl):P:=h
theorem V0 {P:Prop}(h:P:=by exact⟨_,dC (k:=0) (v:=0) (e:=3),rfl⟩):P:=h
theorem V1 {P:Prop}(h:P:=by
 rw[l5 (j8 _),hL] at o5 mM
 simp only[go_sem,q17,q18,hki]
 refine aM b9 ?_
 simp only[go_sem,q4,q5,o4,o5]
 refine⟨_,ab.refl _,?_⟩
 simp only[go_sem]
 exact⟨rfl,⟨M,oM,mM,dM⟩,fr⟩):P:=h
theorem V2 {P:Prop}(h:P:=by
 rintro _ rfl
 unfold pU fP
 simp only[go_sem]
 exact⟨_,sm,rfl⟩):P:=h
theorem V3 {P:Prop}(h:P:=by
 subst h hn
 exact⟨rfl,⟨gL 0 1 rfl a8 a6 a7 (by rw[hT];congr 1;omega),trivial⟩,fun h=>h.1⟩):P:=h
theorem V4 {P:Prop}(h:P:=by
 rw[e1]
 exact⟨a6,⟨a8,a6⟩,hK⟩):P:=h
theorem V5 {P:Prop}(h:P:=by
 refine⟨0,0,rfl,rfl,E9 _,a8,?_⟩
 simp only[go_sem,f1,f2,f3,f20,f21,f4,o1,o2]
 refine⟨?_,?_,?_⟩
 ·rw[l5 a6,tG];rfl
 ·rw[l5 a6,ks];rfl
 ·rw[l5 a6,ks];rfl):P:=h
theorem V6 {P:Prop}(h:P:=by
 refine⟨0,rfl,⟨?_,?_,?_,?_,?_,?_,?_⟩,?_⟩ <;> (simp only[go_sem])
 ·rfl
 ·rfl
 ·exact fun i hi=>⟨nu,nu⟩
 ·exact⟨[],rfl,fun s=>rfl,fun c hc=>by cases hc⟩):P:=h
theorem V7 {P:Prop}(h:P:=by
 refine⟨_,ab.refl _,?_⟩
 simp only[go_sem,n1,n2]
 exact bi.nil (fun i hi=>⟨nu,nu⟩) (rs':=[.agg ((plD t).map .d)]) ⟨_,_,rfl,CB (plD t),rfl⟩ ⟨rfl,rfl,rfl⟩):P:=h
theorem V8 {P:Prop}(h:P:=by
 simp only[Oper.upon]
 have:=hp.2 b₀ N β a s.f w (args.toList.map a.eval) hr (iO hr _)
 rw[show (args.toList.map a.eval).toArray=args.map a.eval from G7 a7] at this
 exact Uw):P:=h
theorem V9 {P:Prop}(h:P:=by
 obtain rfl:z=false:=by rw[←hz];simp[cl,aj,hnm,dH]
 simp only[go_sem,j4,hlv,hel,hth,hnm]):P:=h
theorem Wa {P:Prop}(h:P:=by exact⟨_,⟨_,⟨_,_,rfl,mu [.nsl,.nsl,.nsl],_,_,rfl,dv _,_,_,rfl,dv _,rfl⟩,rfl⟩,rfl⟩):P:=h
theorem Wb {P:Prop}(h:P:=by
 refine this.mono fun e w' ⟨v,r,g',ob',β',he,hR,hv,h1,h2,h3⟩=>?_
 subst he
 obtain⟨k1,k2⟩:=iD hr hdst hv h1 h2 h3
 exact hn _ β' _ w' ⟨r,g',ob',hR,rfl⟩ k1 k2):P:=h
theorem Wc {P:Prop}(h:P:=by
 simp only[St.newC,upd];split
 ·rename_i he;subst he;exact Q6 (vD _ _)
 ·exact j8 _):P:=h
theorem Wd {P:Prop}(h:P:=by
 obtain rfl:z=false:=by rw[←hz];simp[bE,aj,hnm,dH]
 simp only[go_sem,hlv,hop,hnu,hnm]):P:=h
theorem We {P:Prop}(h:P:=by
 refine⟨_,ab.refl _,?_⟩
 simp only[go_sem]
 exact bi.use (fun i hi h5 h6=>⟨(fr i hi).1,(fr i hi).2 h5 h6⟩) (fr 5 a6).1 (fr 6 a6).1 o5 o6 (rs':=[]) rfl):P:=h
theorem Wf {P:Prop}(h:P:=by
 obtain⟨k,t,v⟩:=y
 rw[tN]
 simp only[go_sem]
 exact⟨_,dC (e:=0),rfl⟩):P:=h
theorem Wg {P:Prop}(h:P:=by
 rcases hi3 e (by simpa using he) with h|h
 ·rw[hb] at h;cases h
 ·exact h):P:=h
theorem Wh {P:Prop}(h:P:=by exact⟨y,cv,h1,fun w' hw'=>by simp[execOp,h2 w' hw'],h3⟩):P:=h
theorem Wi {P:Prop}(h:P:=by
 simp only[ag,ay]
 exact⟨rfl,hv.2.1,fun _ _=>⟨ad,hβ,hsp,by simp[B6]⟩⟩):P:=h
theorem Wj {P:Prop}(h:P:=by
 refine bP b9 ?_
 simp only[go_sem,ho,hn0,htg]
 exact VA):P:=h
theorem Wk {P:Prop}(h:P:=by exact h.elim):P:=h
theorem Wl {P:Prop}(h:P:=by
 unfold jz
 split
 ·rename_i hm
  simp only[y2,z7,D6] at hm
  rcases hm with rfl|rfl
  ·exact Ux
  ·exact absurd rfl hi
 ·rfl):P:=h
theorem Wm {P:Prop}(h:P:=by refine⟨⟨by rw[setCells_size];exact hb.1,hb.2.1,fun i a' hi'=>hb.2.2 i a' (by rw[←hsome i];exact hi')⟩,heap_setCells_other _ _ _ _ _ hne⟩):P:=h
theorem Wo {P:Prop}(h:P:=by
 subst he
 obtain⟨k1,k2⟩:=iD hr hdst hv h1 h2 h3
 exact⟨k1.defers,hn _ β' _ w' ⟨r,g',ob',hR,rfl⟩ k1 (hΦ _ _ _ _ _ _ _ hφ k2)⟩):P:=h
theorem Wp {P:Prop}(h:P:=by
 rcases this with((h|h)|h)|h
 ·exact .inl h
 ·exact .inr (.inl h)
 ·exact .inr (.inr h)
 ·rw[J1.2 hat] at h;cases h):P:=h
theorem Wq {P:Prop}(h:P:=by
 have:=nE hcl hid j e2.o ho2 (fun e' he' hb'=>hid j _ hLj ho2 e' he' hb') i h
 rw[hL] at this
 exact absurd this.1 a7):P:=h
theorem Ws {P:Prop}(h:P:=by exact fY hT more rest hp' hds' hp.2 h (fun s2 a2 k1 k2 k3=>hQ _ _ k1 k2 (Tr.trans (Tr.same (by rw[St.put_gen]) (by rw[St.put_obj]) rfl) k3))):P:=h
theorem Wt {P:Prop}(h:P:=by exact kc hT rest hp hds' h (fun s2 β2 a2 w2 k1 k2 k3=>hQ _ _ _ _ k1 k2 (Tr.trans (Tr.same (by rw[St.put_gen]) (by rw[St.put_obj]) rfl) k3))):P:=h
theorem Wu {P:Prop}(h:P:=by exact gW hT more rest hp' hds' hp.2 h (fun s2 a2 k1 k2 k3=>hQ _ _ k1 k2 (Tr.trans (Tr.same (by rw[St.put_gen]) (by rw[St.put_obj]) rfl) k3))):P:=h
theorem Wv {P:Prop}(h:P:=by
 have:=x6.1 hds ops[i] (E6 hi1)
 rw[hd] at this
 simpa using this):P:=h
theorem Ww {P:Prop}(h:P:=by
 simp only[go_sem,n8,n9,q1,q2,q3,q7,q8]
 exact UI):P:=h
theorem Wx {P:Prop}(h:P:=by
 rintro _ rfl
 exact Vn):P:=h
theorem Wy {P:Prop}(h:P:=by
 rw[if_pos hw] at h
 rw[if_pos (by simp[Region.wanted,hg,hy,hw])]
 exact hop hr' (Tr.same rfl rfl rfl) h):P:=h
theorem Wz {P:Prop}(h:P:=by
 refine⟨0,rfl,?_⟩
 simp only[St.grab]
 simp only[go_sem]
 exact⟨rfl,fun j hj=>⟨nu,nu⟩,fun j hj=>nt (hB j a6)⟩):P:=h
theorem WA {P:Prop}(h:P:=by
 simp only[s6] at this
 have h2:=this.1.1
 simp only at ha2
 rw[←ha2,dH] at h2
 cases h2):P:=h
theorem WB {P:Prop}(h:P:=by
 refine⟨0,rfl,by rw[B3];exact hz,?_⟩
 simp only[go_sem]
 exact⟨fun j hj=>⟨nu,nu⟩,fun j hj=>nt (hf j a6)⟩):P:=h
theorem WD {P:Prop}(h:P:=by
 simp only[go_sem,n1,n2]
 exact hK):P:=h
theorem WE {P:Prop}(h:P:=by
 rw[tO]
 simp only[go_sem]
 exact⟨_,dC (k:=0) (v:=0),rfl⟩):P:=h
theorem WG {P:Prop}(h:P:=by
 have hki:¬(k:Int)<(l.length:Int):=a6
 rw[A1 a6] at hc
 obtain rfl:z=true:=hc.symm
 simp only[go_sem,q0,q5,hki,j4]):P:=h
theorem WH {P:Prop}(h:P:=by
 simp only[go_sem,n8,n9,q1,q2,q6,q7]
 exact UI):P:=h
theorem WI {P:Prop}(h:P:=by
 rw[hβ] at hat
 obtain⟨rfl,rfl⟩:=hat
 have:es=[]:=v8 hlen
 subst this
 exact .sl0):P:=h
theorem WJ {P:Prop}(h:P:=by exact fF h (fun w=>by simp[Builtin.len_,run_underlying hu,goInt])):P:=h
theorem WK {P:Prop}(h:P:=by obtain⟨_,_,_,_,_,h⟩:=hok;rcases h with⟨h,_⟩|⟨h,_⟩|⟨h,_⟩|⟨h,_⟩|⟨h,_⟩|⟨h,_⟩|⟨_,h⟩ <;> omega):P:=h
theorem WL {P:Prop}(h:P:=by simp only[go_sem,q0,q1]):P:=h
theorem WM {P:Prop}(h:P:=by
 refine⟨0,a,b,rfl,by rw[B3];exact hx0,by rw[B3];exact hy0,?_⟩
 simp only[go_sem,hn,hu]
 exact fun j hj=>hB j a6):P:=h
theorem WN {P:Prop}(h:P:=by
 rw[hg] at h
 simp only at h
 rw[if_pos (by simp[Region.wanted,hg])]
 exact hop hr Tr.refl h):P:=h
theorem WO {P:Prop}(h:P:=by
 obtain⟨k,rfl⟩:∃k,op=k+1:=⟨op-1,a6⟩
 have:names.length≤k:=by show 27≤k;omega
 simp[nameOf,this]):P:=h
theorem WQ {P:Prop}(h:P:=by
 have hlti:¬(n:Int)<(ts.length:Int):=a6
 rw[A5 a6] at hz
 subst hz
 simp only[go_sem,ho,j4,hlti]
 exact VA):P:=h
theorem WR {P:Prop}(h:P:=by exact gQ hT rest hp' hds' hp.2 h (fun s2 a2 k1 k2 k3 k4=>hQ _ _ k1 k2 (by rw[k3,St.put_gen]) (by rw[k4,St.put_obj]))):P:=h
theorem WS {P:Prop}(h:P:=by
 obtain rfl:z=false:=by
  have:¬kids.length=1:=a6
  rw[←hz];simp[bE,this]
 simp only[go_sem,j4,hkn]):P:=h
theorem WT {P:Prop}(h:P:=by
 obtain⟨n,hn⟩:∃n,Op.maxDepth=n+1:=⟨_,rfl⟩
 unfold Op.equal
 rw[hn,Op.equalIn]
 simp[run_underlying hu]):P:=h
theorem WU {P:Prop}(h:P:=by
 obtain rfl:z=false:=by rw[←hz];simp[bE,aj,hok]
 exact UO):P:=h
theorem WV {P:Prop}(h:P:=by
 obtain rfl:z=false:=by rw[←hz];simp[cl,aj,hok]
 exact UO):P:=h
theorem WW {P:Prop}(h:P:=by
 simp only[go_sem,n1,n2,q0,q3,j5]
 refine⟨?_,(InF.go hin),(fi hf1),hp⟩
 rw[l5 a6,BE,jw,l5 (by simp[bY])]):P:=h
theorem WX {P:Prop}(h:P:=by
 obtain⟨u,hu,hru⟩:=hcells _ _ (hc m x hx)
 exact⟨u,by rw[fg hblk,B6];exact hu,ih m x hx hru⟩):P:=h
theorem WY {P:Prop}(h:P:=by
 obtain⟨cells,hc⟩:=J6.1 hi
 have:=hr.obj i cells hc
 rw[ha'] at this
 exact this.block.2):P:=h
theorem WZ {P:Prop}(h:P:=by
 refine⟨0,rfl,a7,?_⟩
 exact UO):P:=h
theorem W0 {P:Prop}(h:P:=by simpa using this):P:=h
theorem W1 {P:Prop}(h:P:=by
 have hge:args.length≤i:=by simpa using hx
 exact UC):P:=h
theorem W2 {P:Prop}(h:P:=by
 simp only[go_sem,n1,n2]
 exact⟨⟨_,_,_,_,_,rfl,rfl,rfl,rfl,rfl⟩,rfl,(InF.go hin),(fi hf1),hp⟩):P:=h
theorem W3 {P:Prop}(h:P:=by
 rintro m f g1 ob1 ⟨k,hk,hza,q0,q9,q10,q11,fr,hfr⟩
 simp only at q0 q9 q10 q11 fr hfr
 exact U9):P:=h
theorem W4 {P:Prop}(h:P:=by
 rw[s9,z6 a6] at hi2
 rw[z6 a6]
 simpa using hi2):P:=h
theorem W5 {P:Prop}(h:P:=by
 unfold inW
 cases b
 ·exact UO
 ·simp only[go_sem]
  exact⟨fun h=>by simp[h],fun h=>by simp[h]⟩):P:=h
theorem W6 {P:Prop}(h:P:=by
 simp only[l6,y2,not_or] at hv
 simp only[maskm,upd]
 rw[if_neg hv.1]
 exact ih hv.2):P:=h
theorem W7 {P:Prop}(h:P:=by
 have hge:xs.length≤i:=by simpa using hx
 exact UC):P:=h
theorem W8 {P:Prop}(h:P:=by
 simp only[go_sem,n1,n2,exD]
 exact⟨⟨_,_,_,_,_,rfl,rfl,rfl,rfl,rfl⟩,(InF.go hin),(fi hf1),hp⟩):P:=h
theorem W9 {P:Prop}(h:P:=by
 simp only[go_sem,n1,n2,q0,q3,j5]
 refine⟨?_,(InF.go hin),(fi hf1),hp⟩
 rw[l5 a6]
 simp[bm]):P:=h
theorem Xa {P:Prop}(h:P:=by
 rw[hq] at hc
 simp only[y1,s7] at hc
 subst hc
 exact e3 j x hq):P:=h
theorem Xb {P:Prop}(h:P:=by exact⟨s',β',a0,ds',rfl,.inr ⟨ch,rfl,h1⟩,h2,h3⟩):P:=h
theorem Xc {P:Prop}(h:P:=by
 subst h hn
 exact⟨rfl,⟨gL 1 1 rfl a8 a6 a7 (by rw[hT];congr 1;omega),trivial⟩,fun h=>h.1⟩):P:=h
theorem Xd {P:Prop}(h:P:=by exact⟨⟨_,_,_,_,_,o2⟩,(InF.go hin),(fi hf1),hp⟩):P:=h
theorem Xe {P:Prop}(h:P:=by
 have h3:¬fnD.name = "runtime.NumGoroutine":=by simpa using hnn
 simp[invoke,callFunc,hf,hb,h3]):P:=h
theorem Xf {P:Prop}(h:P:=by
 simp only[go_sem,n1,n2]
 exact⟨⟨_,_,_,rfl,rfl,rfl⟩,rfl,rfl,ho,(InF.go hin),(fi hf1),hp⟩):P:=h
theorem Xg {P:Prop}(h:P:=by
 have hbi:(20000:Int)<(s.length:Int):=a6
 rw[if_pos hbig]
 simp only[go_sem,hbi]
 exact VR):P:=h
theorem Xh {P:Prop}(h:P:=by exact⟨z,cv,h1,fun w' hw'=>by rw[Sem.run_bind,ip _ _ _ _ _ _ a7 a7];simpa using h2 w' hw',h3⟩):P:=h
theorem Xi {P:Prop}(h:P:=by simp only[upd];rw[if_pos trivial];simp only[bq.cells,bq.at,hQ.s,hQ.ds,hQ.bk,hQ.b,hQ.e,hQ.p,ksD]):P:=h
theorem Xj {P:Prop}(h:P:=by exact fB (by simp[execOp,h2]) (hn _ _ _ _ h1 h3 h4)):P:=h
theorem Xk {P:Prop}(h:P:=by
 have hta:=(hφ4.2.2.trans ht5).trans ht6
 exact⟨hta.size,hta.old,hta.keep,hta.os⟩):P:=h
theorem Xl {P:Prop}(h:P:=by
 obtain rfl:z=false:=by rw[←hz];simp[cl,aj,hnm]
 simp only[go_sem,j4,hlv,hel,hth,hnm]):P:=h
theorem Xm {P:Prop}(h:P:=by
 rw[hq] at hs
 cases hs
 have:=hout hq
 simp only at this
 omega):P:=h
theorem Xn {P:Prop}(h:P:=by
 simp only at h1 ⊢
 omega):P:=h
theorem Xo {P:Prop}(h:P:=by
 simp only[go_sem,f1,f2,f3,f20,f4,o1,o2,o34,o41,o55]
 exact⟨_,_,_,_,rfl,rfl,rfl,rfl⟩):P:=h
theorem Xp {P:Prop}(h:P:=by
 rintro ch g' ob' ⟨rfl,m,hp,hc,rfl⟩
 exact hin.rdr.pan (by simp[upd]) (hno m hp) hc):P:=h
theorem Xq {P:Prop}(h:P:=by
 refine⟨0,rfl,by rw[B3];exact hz,?_⟩
 simp only[go_sem]
 exact fun j hj=>hf j a6):P:=h
theorem Xr {P:Prop}(h:P:=by
 rw[if_pos h]
 have hi:¬(e:Int)=0:=a6
 simp only[go_sem,hi]
 exact⟨_,nx,rfl⟩):P:=h
theorem Xs {P:Prop}(h:P:=by
 simp only[hi1,hi2,A4] at h1 h2 hb1 hb2
 exact hr.inj i1 i2 a1 a2 h1 h2 hb1 hb2 hb):P:=h
theorem Xt {P:Prop}(h:P:=by
 by_cases h:l=[]
 ·exact .inl h
 ·exact .inr ⟨l.dropLast,l.getLast h,(L3 h).symm⟩):P:=h
theorem Xu {P:Prop}(h:P:=by
 obtain rfl:z=false:=by rw[←hz];simp[bE,aj,hnm]
 simp only[go_sem,hlv,hop,hnu,hnm]):P:=h
theorem Xv {P:Prop}(h:P:=by
 obtain⟨u,hu,hru⟩:=hcell _ x (hval i e he j x hx)
 rw[hu];exact hru):P:=h
theorem Xw {P:Prop}(h:P:=by simp only[go_sem,n1,n2]):P:=h
theorem Xx {P:Prop}(h:P:=by simp only[go_sem,n1,n2];all_goals rfl):P:=h
theorem Xy {P:Prop}(h:P:=by simp;omega):P:=h
theorem Xz {P:Prop}(h:P:=by simp only[go_sem]):P:=h
theorem XA {P:Prop}(h:P:=by simp only[go_sem,n1,n2,ho]):P:=h
theorem XB {P:Prop}(h:P:=by simp only[upd];rw[if_pos trivial]):P:=h
theorem XC {P:Prop}(h:P:=by simp only[go_sem,n1,n2,hg,q0];all_goals rfl):P:=h
theorem XD {P:Prop}(h:P:=by simp only[go_sem,n1,n2,o125]):P:=h
theorem XE {P:Prop}(h:P:=by first|(simp[upd];done)|(simp only[upd];exact nt (hn))):P:=h
theorem XF {P:Prop}(h:P:=by first|(simp[upd];done)|(simp only[upd];exact nt (hu))):P:=h
theorem XG {P:Prop}(h:P:=by simp only[go_sem,n1,n2,bm]):P:=h
theorem XH {P:Prop}(h:P:=by simp only[go_sem,n1,n2,hg,q0]):P:=h
theorem XI {P:Prop}(h:P:=by simp[upd]):P:=h
theorem XJ {P:Prop}(h:P:=by first|rfl|simp only[go_sem,hg0,bD]):P:=h
theorem XK {P:Prop}(h:P:=by first|exact hl|((try simp only[aq,al,au,Emit.kD,Emit.lV,j5,j6,j7]);omega)):P:=h
theorem XL {P:Prop}(h:P:=by first|exact hh|((try simp only[aq,al,au,Emit.kD,Emit.lV,j5,j6,j7,l9]);omega)):P:=h
theorem XM {P:Prop}(h:P:=by simp only[go_sem];rfl):P:=h
theorem XN {P:Prop}(h:P:=by simp only[go_sem,n1,n2,hg];all_goals rfl):P:=h
theorem XO {P:Prop}(h:P:=by simp only[go_sem];exact cr ho name false):P:=h
theorem XP {P:Prop}(h:P:=by simp only[go_sem,n1,n2,o125']):P:=h
theorem XQ {P:Prop}(h:P:=by simp only[St.claimAt];simp only[go_sem,n1,n2]):P:=h
theorem XR {P:Prop}(h:P:=by simp only;omega):P:=h
theorem XS {P:Prop}(h:P:=by first|rfl|simp only[go_sem,p3_1,g3_1,bD]):P:=h
theorem XT {P:Prop}(h:P:=by first|exact hl|((try simp only[aq,al,au,Emit.kD,Emit.lV,j5,j6,j7]);omega)):P:=h
theorem XU {P:Prop}(h:P:=by first|exact hh|((try simp only[aq,al,au,Emit.kD,Emit.lV,j5,j6,j7,l9]);omega)):P:=h
theorem XV {P:Prop}(h:P:=by first|omega|(simp only;omega)):P:=h
theorem XW {P:Prop}(h:P:=by simp[ho]):P:=h
theorem XX {P:Prop}(h:P:=by simp[Region.wanted,hg,hy,hw]):P:=h
theorem XY {P:Prop}(h:P:=by simp only[go_sem];exact cr ho name true):P:=h
theorem XZ {P:Prop}(h:P:=by simp only[St.claimAt];simp only[go_sem]):P:=h
theorem X1 {P:Prop}(h:P:=by first|rfl|simp only[go_sem]):P:=h
theorem X2 {P:Prop}(h:P:=by simp only[br,j5,j4,j6,j7];omega):P:=h
theorem X6 {P:Prop}(h:P:=by simp only[go_sem];exact hD):P:=h
theorem X7 {P:Prop}(h:P:=by simp only[go_sem,n1,n2];simp[exC,exD]):P:=h
theorem X8 {P:Prop}(h:P:=by rw[hlc];simp only[j6,j7];omega):P:=h
theorem X9 {P:Prop}(h:P:=by simp[pack,exV,exD]):P:=h
theorem Ya {P:Prop}(h:P:=by simp only[al,j5,j6,j7];omega):P:=h
theorem Yb {P:Prop}(h:P:=by first|exact hform.2.2.2|(simp[hform.2.2.2])):P:=h
theorem Yc {P:Prop}(h:P:=by first|exact hform.2.2.1|(simp[hform.2.2.1])):P:=h
theorem Yd {P:Prop}(h:P:=by simp only[go_sem];exact iW name):P:=h
theorem Ye {P:Prop}(h:P:=by simp only[al,l9,j7];omega):P:=h
theorem Yf {P:Prop}(h:P:=by simp[bL]):P:=h
theorem Yg {P:Prop}(h:P:=by rw[hd];rfl):P:=h
theorem Yh {P:Prop}(h:P:=by simp only[szE,bH];omega):P:=h
theorem Yi {P:Prop}(h:P:=by simp only[go_sem];rw[←hex]):P:=h
theorem Yj {P:Prop}(h:P:=by simp only[go_sem,n1,n2,jw]):P:=h
theorem Yk {P:Prop}(h:P:=by simp only[go_sem];exact hP):P:=h
theorem Yl {P:Prop}(h:P:=by simpa using h):P:=h
theorem Ym {P:Prop}(h:P:=by simp[bB]):P:=h
theorem Yn {P:Prop}(h:P:=by simp[pack,smV,smD,eg,aH]):P:=h
theorem Yo {P:Prop}(h:P:=by first|rfl|simp only[go_sem,p3_2,g3_2,bD]):P:=h
theorem Yp {P:Prop}(h:P:=by first|exact hl|((try simp only[aq,al,au,Emit.kD,Emit.lV,j5,j6,j7]);omega)):P:=h
theorem Yq {P:Prop}(h:P:=by first|exact hh|((try simp only[aq,al,au,Emit.kD,Emit.lV,j5,j6,j7,l9]);omega)):P:=h
theorem Yr {P:Prop}(h:P:=by simp[cp]):P:=h
theorem Ys {P:Prop}(h:P:=by simp[pack,smV,smD,mF]):P:=h
theorem Yt {P:Prop}(h:P:=by simp[pack,exV,exD,lq]):P:=h
theorem Yu {P:Prop}(h:P:=by simpa using hl):P:=h
theorem Yv {P:Prop}(h:P:=by simp only[go_sem];exact hL):P:=h
theorem Yw {P:Prop}(h:P:=by simp only[go_sem];exact hC):P:=h
theorem Yx {P:Prop}(h:P:=by simp[Region.wanted,hg,hy]):P:=h
theorem Yy {P:Prop}(h:P:=by obtain⟨listed,rfl,e1,e2⟩:=h6;exact ql hbk e1 e2):P:=h
theorem Yz {P:Prop}(h:P:=by simp only[go_sem,rP];rfl):P:=h
theorem YA {P:Prop}(h:P:=by simp[Tryz.ntmps73]):P:=h
theorem YB {P:Prop}(h:P:=by simpa using hi):P:=h
theorem YC {P:Prop}(h:P:=by simp only[go_sem,hwl];exact hK):P:=h
theorem YD {P:Prop}(h:P:=by simp only[go_sem,n1,n2,rdW,cF]):P:=h
theorem YE {P:Prop}(h:P:=by simp only[go_sem];exact hfz _ _ (e1 _) (by simp only[upd];(repeat rw[if_neg hmi2.2]);exact hmo1)):P:=h
theorem YF {P:Prop}(h:P:=by simp only[go_sem,q6]):P:=h
theorem YG {P:Prop}(h:P:=by simp only[go_sem,q0]):P:=h
theorem YH {P:Prop}(h:P:=by simp[e]):P:=h
theorem YI {P:Prop}(h:P:=by simp only[szS,bu,bH];omega):P:=h
theorem YJ {P:Prop}(h:P:=by first|rfl|simp only[go_sem,p3_3,g3_3,bD]):P:=h
theorem YK {P:Prop}(h:P:=by first|exact hl|((try simp only[aq,al,au,Emit.kD,Emit.lV,j5,j6,j7]);omega)):P:=h
theorem YL {P:Prop}(h:P:=by first|exact hh|((try simp only[aq,al,au,Emit.kD,Emit.lV,j5,j6,j7,l9]);omega)):P:=h
theorem YM {P:Prop}(h:P:=by simp[aJ,ho]):P:=h
theorem YN {P:Prop}(h:P:=by simp only[go_sem];rw[←hex];exact zT _):P:=h
theorem YO {P:Prop}(h:P:=by simp[pack,smV,smD,mF,aH]):P:=h
theorem YP {P:Prop}(h:P:=by have:=nv hs;omega):P:=h
theorem YQ {P:Prop}(h:P:=by unfold bm;clear ho hn;induction l with|nil=>rfl|cons a l ih=>simpa using ih):P:=h
theorem YR {P:Prop}(h:P:=by simp only[szS,bu];omega):P:=h
theorem YS {P:Prop}(h:P:=by simp[ja]):P:=h
theorem YT {P:Prop}(h:P:=by omega):P:=h
theorem YU {P:Prop}(h:P:=by cases h):P:=h
theorem YV {P:Prop}(h:P:=by rw[hlB];simp only[bJ,j4];omega):P:=h
theorem YW {P:Prop}(h:P:=by simp only[aq,al,r0]):P:=h
theorem YX {P:Prop}(h:P:=by rw[ho];rfl):P:=h
theorem YY {P:Prop}(h:P:=by rw[hx];exact hw Bc G D H gG code holes s.gen s.obj S hg hl hhl):P:=h
theorem YZ {P:Prop}(h:P:=by unfold kE rem;split <;> omega):P:=h
theorem Y0 {P:Prop}(h:P:=by simp only[go_sem,n1,n2,o17]):P:=h
theorem Za {P:Prop}(h:P:=by simp only[go_sem,n1,n2,o43]):P:=h
theorem Zb {P:Prop}(h:P:=by simp only[go_sem];exact hF):P:=h
theorem Zc {P:Prop}(h:P:=by simp only[go_sem];exact hB):P:=h
theorem Zd {P:Prop}(h:P:=by simp only[go_sem];exact hS):P:=h
theorem Ze {P:Prop}(h:P:=by simp only[go_sem];exact hT):P:=h
theorem Zf {P:Prop}(h:P:=by simp only[go_sem];exact hI):P:=h
theorem Zg {P:Prop}(h:P:=by simp only[go_sem];exact hN):P:=h
theorem Zh {P:Prop}(h:P:=by simp only[go_sem,n1,n2,q0,hg];rw[←hg];exact Ah o125'):P:=h
theorem Zi {P:Prop}(h:P:=by rw[h.len];decide):P:=h
theorem Zj {P:Prop}(h:P:=by have:=count_set hli;omega):P:=h
theorem Zk {P:Prop}(h:P:=by simp only[al,j6,j7];omega):P:=h
theorem Zl {P:Prop}(h:P:=by simp only[aq,al,au,Emit.kD,Emit.lV,j5,j6,j7,r0,l9,y8]):P:=h
theorem Zm {P:Prop}(h:P:=by cases ho):P:=h
theorem Zn {P:Prop}(h:P:=by simpa using hv2):P:=h
theorem Zo {P:Prop}(h:P:=by rw[←hsome i'];exact h2):P:=h
theorem Zp {P:Prop}(h:P:=by rw[A7];exact hu):P:=h
set_option maxHeartbeats 64000000
set_option maxRecDepth 100000
end
end Go
namespace Go.Am
section
theorem ite_cc {α:Sort _} {b c:Prop} [Decidable b] [Decidable c] {x y:α} (h:b=c):ite b x y=ite c x y:=by subst h;congr
attribute [go_sem] reduceIte
end
section
attribute [local congr] Go.Am.ite_cc
section
inductive D where
 |bool (b:Bool)
 |int (k:IntKind) (n:Int)
 |str (s:List UInt8)
 |sl (es:List (List D))
 |nsl
 |nilp
 |nilf
 |nili
 |nilm
 |fn (f:FuncId)
 |iptr (cs:List D)
 |yld (l:Nat)
 deriving Inhabited
inductive PC where
 |d (x:D)
 |ptr (id g off:Nat)
 deriving Inhabited
inductive C where
 |d (x:D)
 |osl (id g sz off len:Nat)
 |ptr (id g off:Nat)
 |clo (f:FuncId) (caps:List PC)
 |mp (id g kd:Nat)
 |lsl (n:Nat)
 |raw (o:Obj)
 deriving Inhabited
inductive AV where
 |one (c:C)
 |agg (cs:List C)
 |tup (vs:List AV)
 |junk
 |exact(v:Value)
 deriving Inhabited
structure St where
 f:Nat→AV
 gen:Nat→Nat
 obj:Nat→Option (List C)
inductive Box {α:Type} (a:α):Type where
 |mk
@[reducible] def bx {α:Type} (a:α):Box a:=.mk
def upd {α:Type} (f:Nat→α) (i:Nat) (v:α):Nat→α:=fun j=>if j=i then v else f j
structure TI where
 desc:TypeDesc
 size:Nat
 bytes:Nat
 zero:List D
 deriving Inhabited
abbrev iv (k:IntKind) (n:Int):AV:=.one (.d (.int k n))
abbrev bv (b:Bool):AV:=.one (.d (.bool b))
abbrev sv (s:List UInt8):AV:=.one (.d (.str s))
abbrev uv:AV:=.tup []
def Um:Value→C
 |.bool b=>.d (.bool b)
 |.int k n=>.d (.int k n)
 |.string s=>.d (.str s.data.toList)
 |.slice none 0 0=>.d .nsl
 |.pointer none=>.d .nilp
 |.nilFunc=>.d .nilf
 |.nilIface=>.d .nili
 |.map none=>.d .nilm
 |_=>.osl 0 0 0 0 0
def vC:Value→AV
 |.bool b=>.one (.d (.bool b))
 |.int k n=>.one (.d (.int k n))
 |.string s=>.one (.d (.str s.data.toList))
 |.slice none 0 0=>.one (.d .nsl)
 |.pointer none=>.one (.d .nilp)
 |.nilFunc=>.one (.d .nilf)
 |.nilIface=>.one (.d .nili)
 |.map none=>.one (.d .nilm)
 |_=>.junk
def St.ev (s:St):Operand→AV
 |.tmp t=>s.f t
 |.const v=>vC v
 |.global _=>.junk
 |.func f=>.one (.d (.fn f))
def St.put (s:St) (dst:Option Nat) (v:AV):St:=
 match dst with
 |none=>s
 |some d=>{ s with f:=upd s.f d v }
def nxC (c g:Nat):Nat:=1000000*(g+1)+(if c<1000000 then c else 0)
def code (g:Nat):Nat:=g%1000000
theorem vD (c g:Nat):g<nxC c g:=by unfold nxC;omega
theorem zf (c g:Nat):nxC c g≠g:=Nat.ne_of_gt (vD c g)
theorem mJ (c g:Nat):code (nxC c g)=if c<1000000 then c else 0:=by
 unfold code nxC;rw[Nat.mul_add_mod];split
 ·rename_i h;exact O6 h
 ·rfl
def apC (e g off:Nat):Nat:=if code g=e+1∧off=0 then e+1 else 0
def St.newC (c:Nat) (s:St) (d:Nat) (cs:List C):St:={ s with gen:=upd s.gen d (nxC c (s.gen d)),obj:=upd s.obj d (some cs)}
def dk:TypeDesc→Bool
 |.struct _|.array _ _=>true
 |_=>false
def cellsOf:AV→Option (List C)
 |.one c=>some [c]
 |.agg cs=>some cs
 |_=>none
def setAt (cells:List C) (off:Nat):List C→List C
 |[]=>cells
 |c::cs=>setAt (cells.set off c) (off+1) cs
def uG (b:UInt8):D:=.int .u8 b.toNat
def iL (b:Bool) {K:Bool→Prop} (_:Box K):Prop:=(b=true→K true)∧(b=false→K false)
def aN {α:Type} (x:Option α) {K:α→Prop} (_:Box K):Prop:=
 match x with
 |some a=>K a
 |none=>False
def oI (v:AV) {K:Bool→Prop} (k:Box K):Prop:=
 match v with
 |.one (.d (.bool b))=>iL b k
 |_=>False
def lF (v:AV) {K:Bool→Prop} (k:Box K) {U:Prop} (_:Box U):Prop:=
 match v with
 |.one (.d (.bool b))=>iL b k
 |.tup []=>U
 |_=>False
def sx (ti:TI) (cells:List C) (off:Nat) {K:AV→Prop} (_:Box K):Prop:=
 match dk ti.desc with
 |true=>off+ti.size≤cells.length∧K (.agg ((cells.drop off).take ti.size))
 |false=>aN (cells[off]?) (bx fun c=>K (.one c))
def AK (ti:TI) (cs:List D) {K:AV→Prop} (_:Box K):Prop:=
 match dk ti.desc with
 |true=>ti.size≤cs.length∧K (.agg ((cs.take ti.size).map .d))
 |false=>aN (cs[0]?) (bx fun c=>K (.one (.d c)))
def okD:TypeDesc→Bool
 |.invalid=>false
 |_=>true
def qY (ti:TI) (s:St) (a:AV) {K:AV→Prop} (k:Box K):Prop:=
 match a with
 |.one (.ptr id g off)=>okD ti.desc=true∧s.gen id=g∧aN (s.obj id) (bx fun cells=>sx ti cells off k)
 |.one (.d (.iptr cs))=>okD ti.desc=true∧AK ti cs k
 |_=>False
def qi (ti:TI) (s:St) (a x:AV) {K:St→Prop} (_:Box K):Prop:=
 match a with
 | .one (.ptr id g off)=>okD ti.desc=true∧s.gen id=g∧aN (cellsOf x) (bx fun cs=>cs.length=ti.size∧aN (s.obj id) (bx fun cells=>off+cs.length≤cells.length∧
     K { s with obj:=upd s.obj id (some (setAt cells off cs))}))
 |_=>False
def iw (s:St) (sz:Nat) (x ix:AV) {K:AV→Prop} (_:Box K):Prop:=
 match ix with
 |.one (.d (.int _ i))=>
   match x with
   |.one (.d (.sl es))=>0≤i∧aN (es[i.toNat]?) (bx fun c=>c.length=sz∧K (.one (.d (.iptr c))))
   |.one (.osl id g sz' off len)=>s.gen id=g∧(s.obj id).isSome=true∧0≤i∧i<len∧sz'=sz∧K (.one (.ptr id g (off+i.toNat*sz)))
   |_=>False
 |_=>False
def kP (T:Nat→TI) (d:TypeDesc) (s:St) (x ix:AV) {K:AV→Prop} (_:Box K):Prop:=
 match d with
 |.array n e=>
   match ix with
   |.one (.d (.int _ i))=>
     match x with
     |.one (.ptr id g off)=>s.gen id=g∧(s.obj id).isSome=true∧okD (T e).desc=true∧0≤i∧i<n∧K (.one (.ptr id g (off+i.toNat*(T e).size)))
     |_=>False
   |_=>False
 |_=>False
def mK (d:TypeDesc):Bool:=match d with|.array _ _=>true|_=>false
def sy (x ix:AV) {K:AV→Prop} (_:Box K):Prop:=
 match ix with
 |.one (.d (.int _ i))=>
   match x with
   |.one (.d (.str s))=>0≤i∧aN (s[i.toNat]?) (bx fun c=>K (iv .u8 c.toNat))
   |_=>False
 |_=>False
def lG (op:BinOp) (k:IntKind) (x y:Int) {K:AV→Prop} (_:Box K):Prop:=
 match op with
 |.add=>K (iv k (k.wrap (x+y)))
 |.sub=>K (iv k (k.wrap (x-y)))
 |.mul=>K (iv k (k.wrap (x*y)))
 |.quo=>y≠0∧K (iv k (k.wrap (x.tdiv y)))
 |.rem=>y≠0∧K (iv k (x.tmod y))
 |.eql=>K (bv (decide (x=y)))
 |.neq=>K (bv (decide (x≠y)))
 |.lss=>K (bv (decide (x<y)))
 |.leq=>K (bv (decide (x≤y)))
 |.gtr=>K (bv (decide (y<x)))
 |.geq=>K (bv (decide (y≤x)))
 |.and=>K (iv k (k.wrap (BitVec.ofInt k.bits x &&&BitVec.ofInt k.bits y).toNat))
 |.or=>K (iv k (k.wrap (BitVec.ofInt k.bits x |||BitVec.ofInt k.bits y).toNat))
 |.xor=>K (iv k (k.wrap (BitVec.ofInt k.bits x ^^^ BitVec.ofInt k.bits y).toNat))
 |.andNot=>K (iv k (k.wrap (BitVec.ofInt k.bits x &&& ~~~ BitVec.ofInt k.bits y).toNat))
 |.shl=>0≤y∧K (iv k (k.wrap (x*2^(min y.toNat k.bits))))
 |.shr=>0≤y∧K (iv k (x.fdiv (2^(min y.toNat k.bits))))
def zg (op:BinOp) (x y:List UInt8) {K:AV→Prop} (_:Box K):Prop:=
 match op with
 |.add=>((x.length+y.length:Nat):Int)≤9223372036854775807∧K (sv (x++y))
 |.eql=>K (bv (decide (x=y)))
 |.neq=>K (bv (decide (x≠y)))
 |.lss=>K (bv (Op.bytesLess x y))
 |.leq=>K (bv (Op.bytesLess x y||decide (x=y)))
 |.gtr=>K (bv (!(Op.bytesLess x y||decide (x=y))))
 |.geq=>K (bv (!Op.bytesLess x y))
 |_=>False
def sameKind (op:BinOp) (k k':IntKind):Prop:=
 match op with
 |.shl|.shr=>True
 |_=>k=k'
def GM (d:TypeDesc) (op:BinOp) (x y:Bool) {K:AV→Prop} (_:Box K):Prop:=
 match d,op with
 |.bool,.eql=>K (bv (decide (x=y)))
 |.bool,.neq=>K (bv (decide (x≠y)))
 |_,_=>False
def uH (k:IntKind):List C→Option (List Int)
 |[]=>some []
 |.d (.int k' n)::r=>if k'=k then(uH k r).map (n :: ·) else none
 |_=>none
def GN (ti:TI) (n:Nat) (xs ys:List C) {K:Bool→Prop} (_:Box K):Prop:=
 match ti.desc with
 |.int k=>ti.size=1∧aN (uH k xs) (bx fun a=>aN (uH k ys) (bx fun b=>(a.length=n∧b.length=n)∧K (decide (a=b))))
 |_=>False
def Oh (T:Nat→TI) (d:TypeDesc) (op:BinOp) (xs ys:List C) {K:AV→Prop} (_:Box K):Prop:=
 match d,op with
 |.array n e,.eql=>GN (T e) n xs ys (bx fun b=>K (bv b))
 |.array n e,.neq=>GN (T e) n xs ys (bx fun b=>K (bv (!b)))
 |_,_=>False
def zi (T:Nat→TI) (d:TypeDesc) (op:BinOp) (x y:AV) {K:AV→Prop} (k:Box K):Prop:=
 match x,y with
 |.one (.d (.int k1 a)),.one (.d (.int k2 b))=>sameKind op k1 k2∧lG op k1 a b k
 |.one (.d (.str a)),.one (.d (.str b))=>zg op a b k
 |.one (.d (.bool a)),.one (.d (.bool b))=>GM d op a b k
 |.agg xs,.agg ys=>Oh T d op xs ys k
 |_,_=>False
def unA (op:UnOp) (x:AV) {K:AV→Prop} (_:Box K):Prop:=
 match op,x with
 |.not,.one (.d (.bool b))=>K (bv (!b))
 |.neg,.one (.d (.int k n))=>K (iv k (k.wrap (0-n)))
 |_,_=>False
def contents (s:St) (str sl:Bool) (sz:Nat) (x:AV) {K:Nat→List C→Prop} (_:Box K):Prop:=
 match x with
 |.one (.d .nsl)=>sl=true∧K 0 []
 |.one (.d (.sl es))=>sl=true∧(∀e∈es,e.length=sz)∧K es.length (es.flatten.map .d)
 |.one (.d (.str bs))=>str=true∧sz=1∧K bs.length (bs.map fun b=>.d (uG b))
 |.one (.osl id g sz' off len)=>sl=true∧s.gen id=g∧sz'=sz∧aN (s.obj id) (bx fun cells=>off+len*sz≤cells.length∧K len ((cells.drop off).take (len*sz)))
 |_=>False
def u8s:List C→Option (List Int)
 |[]=>some []
 |.d (.int .u8 n)::r=>(u8s r).map (n :: ·)
 |_=>none
def vE:TypeDesc→Bool
 |.int .u8=>true
 |_=>false
def qZ (s:St) (el:TypeDesc) (src dst:TypeDesc) (x:AV) {K:AV→Prop} (_:Box K):Prop:=
 match src,dst,x with
 |sr,.int k,.one (.d (.int _ n))=>okD sr=true∧K (iv k (k.wrap n))
 |.string,.string,.one (.d (.str b))=>K (sv b)
 |.slice _,.string,y=>vE el=true∧contents s false true 1 y (bx fun _ cs=>aN (u8s cs) (bx fun ns=>K (sv (ns.map fun n=>UInt8.ofNat n.toNat))))
 |_,_,_=>False
def sA (n bytes:Nat):Prop:=0<bytes∧(2*n+1024)*bytes≤281474976710656
def lH (e:Nat) (ti:TI) (str sl:Bool) (i d:Nat) (s:St) (x y:AV) {K:St→Prop} (_:Box K):Prop:=
 match x with
 |.one (.d .nsl)=>contents s str sl ti.size y (bx fun n cs=>sA n ti.bytes∧K ((s.newC (e+1) i cs).put (some d) (.one (.osl i (nxC (e+1) (s.gen i)) ti.size 0 n))))
 | .one (.osl id g sz off len)=>s.gen id=g∧sz=ti.size∧aN (s.obj id) (bx fun cells=>off+len*sz≤cells.length∧
    contents s str sl ti.size y (bx fun n cs=>sA (len+n) ti.bytes∧
     K ((s.newC (apC e (s.gen id) off) id ((cells.drop off).take (len*sz)++cs)).put (some d) (.one (.osl id (nxC (apC e (s.gen id) off) (s.gen id)) ti.size 0 (len+n))))))
 |_=>False
def wS (s:St) (str sl:Bool) (x:AV) {K:AV→Prop} (_:Box K):Prop:=
 match x with
 |.one (.d .nsl)=>sl=true∧K (iv .i64 0)
 |.one (.d (.sl es))=>sl=true∧K (iv .i64 es.length)
 |.one (.d (.str bs))=>str=true∧K (iv .i64 bs.length)
 |.one (.osl id g _ _ len)=>sl=true∧s.gen id=g∧(s.obj id).isSome=true∧K (iv .i64 len)
 |.one (.lsl n)=>sl=true∧K (iv .i64 n)
 |_=>False
def fT (o:Option AV) (els:Nat) {K:Nat→Prop} (_:Box K):Prop:=
 match o with
 |none=>K els
 |some (.one (.d (.int _ n)))=>0≤n∧K n.toNat
 |_=>False
def oJ (s:St) (str sl:Bool) (sz:Nat) (x:AV) (lo hi:Option AV) {K:AV→Prop} (_:Box K):Prop:=
 match x with
 |.one (.d (.str bs))=>str=true∧fT hi bs.length (bx fun h=>fT lo 0 (bx fun l=>l≤h∧h≤bs.length∧K (sv ((bs.take h).drop l))))
 |.one (.d (.sl es))=>sl=true∧fT hi es.length (bx fun h=>fT lo 0 (bx fun l=>l≤h∧h≤es.length∧(∀x∈es,x.length=sz)∧K (.one (.d (.sl ((es.take h).drop l))))))
 |.one (.d .nsl)=>sl=true∧fT hi 0 (bx fun h=>fT lo 0 (bx fun l=>l=0∧h=0∧K (.one (.d .nsl))))
 |.one (.osl id g sz' off len)=>sl=true∧s.gen id=g∧(s.obj id).isSome=true∧fT hi len (bx fun h=>fT lo 0 (bx fun l=>l≤h∧h≤len∧sz'=sz∧K (.one (.osl id g sz (off+l*sz) (h-l)))))
 |_=>False
def GO (o:Option (List C)) (n:Nat):Prop:=∃l,o=some l∧n≤l.length
def kQ (T:Nat→TI) (d:TypeDesc) (s:St) (x:AV) (lo hi:Option AV) {K:AV→Prop} (_:Box K):Prop:=
 match d with
 |.array n e=>
   match x with
   |.one (.ptr id g off)=>
     match lo with
     |none=>s.gen id=g∧okD (T e).desc=true∧GO (s.obj id) (off+n*(T e).size)∧fT hi n (bx fun h=>h≤n∧K (.one (.osl id g (T e).size off h)))
     |_=>False
   |_=>False
 |_=>False
def wT (sz:Nat):(k:Nat)→(ps:List (Nat×AV))→{K:List C→Prop}→Box K→Prop
 |_,[],K,_=>K []
 |k,p::r,K,_=>p.1=k∧aN (cellsOf p.2) (bx fun cs=>cs.length=sz∧wT sz (k+1) r (bx fun rest=>K (cs++rest)))
def jx (e sz i d n:Nat) (s:St) (ps:List (Nat×AV)) {K:St→Prop} (_:Box K):Prop:=
 ps.length=n∧n*sz≤16777216∧wT sz 0 ps (bx fun cs=>K ((s.newC (e+1) i cs).put (some d) (.one (.osl i (nxC (e+1) (s.gen i)) sz 0 n))))
def il (d:TypeDesc) (f:Nat):Option Field:=
 match d with
 |.struct fs=>fs[f]?
 |_=>none
def iy (T:Nat→TI) (t f:Nat) (s:St) (x:AV) {K:AV→Prop} (_:Box K):Prop:=
 match x with
 |.one (.ptr id g off)=>s.gen id=g∧(s.obj id).isSome=true∧aN (il (T t).desc f) (bx fun fl=>(okD (T fl.type).desc=true∧(T fl.type).size≠0)∧K (.one (.ptr id g (off+fl.offset))))
 |.one (.d (.iptr cs))=>aN (il (T t).desc f) (bx fun fl=>(okD (T fl.type).desc=true∧(T fl.type).size≠0)∧K (.one (.d (.iptr (cs.drop fl.offset)))))
 |_=>False
def qj (T:Nat→TI) (t f:Nat) (x:AV) {K:AV→Prop} (k:Box K):Prop:=
 match x with
 |.agg cs=>aN (il (T t).desc f) (bx fun fl=>okD (T fl.type).desc=true∧sx (T fl.type) cs fl.offset k)
 |_=>False
def rc (pl:Nat→Option (Nat×Nat)):(cells:List C)→(ps:List (Nat×AV))→{K:List C→Prop}→Box K→Prop
 |cells,[],K,_=>K cells
 |cells,p::r,_,k=>aN (pl p.1) (bx fun q=>aN (cellsOf p.2) (bx fun cs=>cs.length=q.2∧q.1+q.2≤cells.length∧rc pl (setAt cells q.1 cs) r k))
def placeOf (T:Nat→TI) (d:TypeDesc) (i:Nat):Option (Nat×Nat):=
 match d with
 |.array _ e=>some (i*(T e).size,(T e).size)
 |d=>(il d i).bind fun fl=>bif okD (T fl.type).desc then some (fl.offset,(T fl.type).size) else none
def fU (T:Nat→TI) (t:Nat):Bool:=match (T t).desc with|.struct fs=>fs.toList.all fun f=>okD (T f.type).desc|.array _ e=>okD (T e).desc|_=>false
def ff (T:Nat→TI) (t:Nat) (ps:List (Nat×AV)) {K:AV→Prop} (_:Box K):Prop:=
 fU T t=true∧rc (placeOf T (T t).desc) ((T t).zero.map .d) ps (bx fun cs=>K (.agg cs))
def GP (t i d:Nat) (s:St) (x:AV) {K:St→Prop} (_:Box K):Prop:=
 aN (cellsOf x) (bx fun cs=>K ((s.newC (t+1) i cs).put (some d) (.one (.ptr i (nxC (t+1) (s.gen i)) 0))))
def vF (t:Nat) (ti:TI) (i d:Nat) (s:St) {K:St→Prop} (_:Box K):Prop:=
 okD ti.desc=true∧K ((s.newC (t+1) i (ti.zero.map .d)).put (some d) (.one (.ptr i (nxC (t+1) (s.gen i)) 0)))
def jk (s:St) (x:AV) {K:AV→Prop} (_:Box K):Prop:=
 match x with
 |.one (.ptr id g off)=>s.gen id=g∧(s.obj id).isSome=true∧K (.one (.ptr id g off))
 |.one (.d (.iptr cs))=>K (.one (.d (.iptr cs)))
 |_=>False
def mL (x:AV) (i:Nat) {K:AV→Prop} (k:Box K):Prop:=
 match x with
 |.tup ts=>aN (ts[i]?) k
 |_=>False
def mxA (mx:Bool) (x y:AV) {K:AV→Prop} (_:Box K):Prop:=
 match x,y with
 |.one (.d (.int k a)),.one (.d (.int _ b))=>K (iv k (if mx then max a b else min a b))
 |_,_=>False
def jl (e:Nat) (ti:TI) (i d:Nat) (s:St) (l c:AV) {K:St→Prop} (_:Box K):Prop:=
 match l,c with
 |.one (.d (.int _ n)),.one (.d (.int _ m))=>0≤n∧n≤m∧m≤4611686018427387904∧m*ti.bytes≤281474976710656∧
    K ((s.newC (e+1) i (List.replicate m.toNat (ti.zero.map C.d)).flatten).put (some d) (.one (.osl i (nxC (e+1) (s.gen i)) ti.size 0 n.toNat)))
 |_,_=>False
def df:Nat→TypeDesc
 |0=>.int .i8|1=>.int .i16|2=>.int .i32|3=>.int .i64|4=>.int .u8|5=>.int .u16|6=>.int .u32|7=>.int .u64
 |8=>.string
 |9=>.bool
 |_=>.invalid
def jU:TypeDesc→Nat
 |.int .i8=>0|.int .i16=>1|.int .i32=>2|.int .i64=>3|.int .u8=>4|.int .u16=>5|.int .u32=>6|.int .u64=>7
 |.string=>8
 |_=>9
def gO:TypeDesc→D→Bool
 |.int k,.int k' _=>k'=k
 |.string,.str _=>true
 |.bool,.bool _=>true
 |_,_=>false
def jP:D→D→Bool
 |.int k n,.int k' n'=>k=k'&&n=n'
 |.str s,.str s'=>s=s'
 |.bool b,.bool b'=>b=b'
 |_,_=>false
def mget:List C→D→Option C
 |.d k'::c::r,k=>if jP k' k then some c else mget r k
 |_,_=>none
def mset:List C→D→C→List C
 |.d k'::c::r,k,x=>if jP k' k then .d k'::x::r else .d k'::c::mset r k x
 |_,k,x=>[.d k,x]
def uI (agg:Bool) (n:Nat):Nat:=match agg with|true=>200+n|false=>n
def kR (T:Nat→TI) (t i d:Nat) (s:St) {K:St→Prop} (_:Box K):Prop:=
 match (T t).desc with
 |.map kt et=>df (jU (T kt).desc)=(T kt).desc∧K ((s.newC 0 i []).put (some d) (.one (.mp i (nxC 0 (s.gen i)) (uI (dk (T et).desc) (jU (T kt).desc)))))
 |_=>False
def rf (ok:Bool) (z:D) (c:Option C):AV:=if ok then .tup [.one (c.getD (.d z)),bv c.isSome] else .one (c.getD (.d z))
def wU (ti:TI) {K:D→Prop} (_:Box K):Prop:=
 match ti.zero with
 |[z]=>(okD ti.desc=true∧dk ti.desc=false)∧K z
 |_=>False
def ul (z:List D):Option C→List D
 |some (.d (.iptr ds))=>ds
 |_=>z
def lI (ok:Bool) (z:List D) (c:Option C):AV:=match ok with|true=>.tup [.agg ((ul z c).map .d),bv c.isSome]|false=>.agg ((ul z c).map .d)
def wV (ti:TI) {K:List D→Prop} (_:Box K):Prop:=(okD ti.desc=true∧2≤ti.zero.length)∧K ti.zero
def lJ (T:Nat→TI) (t:Nat) (s:St) (x ix:AV) (ok:Bool) {K:AV→Prop} (_:Box K):Prop:=
 match (T t).desc,ix with
 |.map kt et,.one (.d k)=>(okD (T kt).desc=true∧gO (T kt).desc k=true)∧
   match dk (T et).desc with
   | false=>wU (T et) (bx fun z=>
     match x with
     |.one (.mp id g kd)=>s.gen id=g∧df kd=(T kt).desc∧aN (s.obj id) (bx fun cells=>K (rf ok z (mget cells k)))
     |.one (.d .nilm)=>K (rf ok z none)
     | _=>False)
   | true=>wV (T et) (bx fun z=>
     match x with
     |.one (.mp id g kd)=>s.gen id=g∧(200≤kd∧df (kd-200)=(T kt).desc)∧aN (s.obj id) (bx fun cells=>K (lI ok z (mget cells k)))
     |.one (.d .nilm)=>K (lI ok z none)
     | _=>False)
 |_,_=>False
def datas:List C→Option (List D)
 |[]=>some []
 |.d x::r=>(datas r).map (x :: ·)
 |_=>none
def dZ (T:Nat→TI) (t:Nat) (s:St) (m ix x:AV) {K:St→Prop} (_:Box K):Prop:=
 match (T t).desc,ix,m,x with
 |.map kt _,.one (.d k),.one (.mp id g kd),.one c=>(okD (T kt).desc=true∧gO (T kt).desc k=true)∧s.gen id=g∧df kd=(T kt).desc∧aN (s.obj id) (bx fun cells=>K { s with obj:=upd s.obj id (some (mset cells k c))})
 |.map kt _,.one (.d k),.one (.mp id g kd),.agg cs=>(okD (T kt).desc=true∧gO (T kt).desc k=true)∧s.gen id=g∧(200≤kd∧df (kd-200)=(T kt).desc)∧aN (datas cs) (bx fun ds=>aN (s.obj id) (bx fun cells=>K { s with obj:=upd s.obj id (some (mset cells k (.d (.iptr ds))))}))
 |_,_,_,_=>False
def BV:AV→Option PC
 |.one (.d x)=>some (.d x)
 |.one (.ptr id g off)=>some (.ptr id g off)
 |_=>none
def kS:List AV→Option (List PC)
 |[]=>some []
 |x::xs=>(BV x).bind fun p=>(kS xs).bind fun ps=>some (p::ps)
def jm (f:FuncId) (first caps:List AV) {K:AV→Prop} (_:Box K):Prop:=
 match first with
 |[]=>f<1000000∧aN (kS caps) (bx fun l=>K (.one (.clo f l)))
 |x::r=>caps=[]∧aN (kS (x::r)) (bx fun l=>K (.one (.clo (f+1000000) l)))
def aD (T:Nat→TI) (t:Nat):Nat:=
 match (T t).desc with
 |.slice e=>e
 |_=>0
def aV (T:Nat→TI) (t:Nat):TI:=
 match (T t).desc with
 |.slice e=>T e
 |_=>default
def sB (s:St) (c:Call) (i:Nat):AV:=s.ev (c.args.getD i (.const .nilFunc))
structure Sp where
 op:Oper→St→(St→Prop)→Prop
 code:Code→St→(Exit→St→Prop)→Prop
 vs:St→St→Prop
 base:Nat
def bh (S:Sp) (o:Oper) (s:St) {K:St→Prop} (_:Box K):Prop:=∃R,S.op o s R∧∀s',R s'→K s'
def Jj (S:Sp) (c:Code) (s:St) {Q:Exit→St→Prop} (_:Box Q):Prop:=∃R,S.code c s R∧∀e s',R e s'→Q e s'
def isSlice (d:TypeDesc):Bool:=match d with|.slice _=>true|_=>false
def ea (T:Nat→TI):Op→Bool
 |.indexAddr _ x _=>match x with|.global _=>false|_=>true
 |.move _|.assign _|.pick .. | .load .. | .index .. | .binOp .. | .unOp .. | .slice _ _ _ _ none|.fieldAddr .. | .field .. | .build .. | .nilCheck _|.extract .. | .lookup .. | .makeFunc (.func _) _ _=>true
 |.convert _ d _=>!isSlice (T d).desc
 |.call c=>match c.callee with|.builtin .len|.builtin .max|.builtin .min=>true|_=>false
 |_=>false
def mN (T:Nat→TI) (ops:Array Oper):Bool:=
 (ops.toList.all (ea T ·.op)&&Region.lexB .any ops) ||
 [1,2,3,4].any fun k=>(ops.toList.take (ops.size-k)).all (ea T ·.op)&&Region.lexTailB .any ops (ops.size-k)
def isStr (d:TypeDesc):Bool:=match d with|.string=>true|_=>false
def dg (T:Nat→TI) (t:Nat):Bool:=isSlice (T t).desc&&okD (aV T t).desc
def lK (T:Nat→TI) (src d base:Nat) (dst:Option Nat) (s:St) (x:AV) {K:St→Prop} (_:Box K):Prop:=
 match dst,x with
 |some dd,.one (.d (.str bs))=>isStr (T src).desc=true∧vE (aV T d).desc=true∧K ((s.newC (aD T d+1) (base+dd) (bs.map fun b=>.d (uG b))).put (some dd) (.one (.osl (base+dd) (nxC (aD T d+1) (s.gen (base+dd))) 1 0 bs.length)))
 |_,_=>False
def Oi (S:Sp) (T:Nat→TI) (o:Oper) (c:Call) (s:St) {K:St→Prop} (k:Box K):Prop:=
 match c.callee,o.dst with
 |.builtin .len,dst=>(c.args.size=1∧c.argTypes.size=1)∧wS s (isStr (T (c.argTypes.getD 0 0)).desc) (dg T (c.argTypes.getD 0 0)) (sB s c 0) (bx fun v=>K (s.put dst v))
 |.builtin .max,dst=>c.args.size=2∧mxA true (sB s c 0) (sB s c 1) (bx fun v=>K (s.put dst v))
 |.builtin .min,dst=>c.args.size=2∧mxA false (sB s c 0) (sB s c 1) (bx fun v=>K (s.put dst v))
 |.builtin .append,some d=>(c.args.size=2∧c.argTypes.size=2)∧dg T (c.argTypes.getD 0 0)=true∧lH (aD T (c.argTypes.getD 0 0)) (aV T (c.argTypes.getD 0 0)) (isStr (T (c.argTypes.getD 1 0)).desc) (dg T (c.argTypes.getD 1 0)) (S.base+d) d s (sB s c 0) (sB s c 1) k
 |_,_=>bh S o s k
def opA (S:Sp) (T:Nat→TI) (o:Oper) (s:St) {K:St→Prop} (k:Box K):Prop:=
 match o.op,o.dst with
 |.move x,dst=>K (s.put dst (s.ev x))
 |.assign x,dst=>K (s.put dst (s.ev x))
 |.pick c a b,dst=>oI (s.ev c) (bx fun t=>K (s.put dst (if t then s.ev a else s.ev b)))
 |.load t a,dst=>qY (T t) s (s.ev a) (bx fun v=>K (s.put dst v))
 |.store t a x,dst=>qi (T t) s (s.ev a) (s.ev x) (bx fun s'=>K (s'.put dst uv))
 |.indexAddr t x ix,dst=>match x with
   |.global _=>bh S o s k
   |x=>bif mK (T t).desc then kP T (T t).desc s (s.ev x) (s.ev ix) (bx fun v=>K (s.put dst v)) else dg T t=true∧iw s (aV T t).size (s.ev x) (s.ev ix) (bx fun v=>K (s.put dst v))
 |.index t x ix,dst=>isStr (T t).desc=true∧sy (s.ev x) (s.ev ix) (bx fun v=>K (s.put dst v))
 |.binOp op t x y _,dst=>zi T (T t).desc op (s.ev x) (s.ev y) (bx fun v=>K (s.put dst v))
 |.unOp op _ x,dst=>unA op (s.ev x) (bx fun v=>K (s.put dst v))
 |.convert src d x,dst=>bif isSlice (T d).desc then lK T src d S.base dst s (s.ev x) k else qZ s (aV T src).desc (T src).desc (T d).desc (s.ev x) (bx fun v=>K (s.put dst v))
 |.slice t x lo hi none,dst=>bif mK (T t).desc then kQ T (T t).desc s (s.ev x) (lo.map s.ev) (hi.map s.ev) (bx fun v=>K (s.put dst v)) else oJ s (isStr (T t).desc) (dg T t) (aV T t).size (s.ev x) (lo.map s.ev) (hi.map s.ev) (bx fun v=>K (s.put dst v))
 |.buildSlice t n ps,some d=>dg T t=true∧jx (aD T t) (aV T t).size (S.base+d) d n s (ps.toList.map fun p=>(p.1,s.ev p.2)) k
 |.makeSlice t l c,some d=>dg T t=true∧jl (aD T t) (aV T t) (S.base+d) d s (s.ev l) (s.ev c) k
 |.fieldAddr t x f,dst=>iy T t f s (s.ev x) (bx fun v=>K (s.put dst v))
 |.field t x f,dst=>qj T t f (s.ev x) (bx fun v=>K (s.put dst v))
 |.build t ps,dst=>ff T t (ps.toList.map fun p=>(p.1,s.ev p.2)) (bx fun v=>K (s.put dst v))
 |.nilCheck x,dst=>jk s (s.ev x) (bx fun v=>K (s.put dst v))
 |.extract x i,dst=>mL (s.ev x) i (bx fun v=>K (s.put dst v))
 |.box t x,some d=>GP t (S.base+d) d s (s.ev x) k
 |.alloc t,some d=>vF t (T t) (S.base+d) d s k
 |.makeMap t none,some d=>kR T t (S.base+d) d s k
 |.lookup t x ix ok,dst=>lJ T t s (s.ev x) (s.ev ix) ok (bx fun v=>K (s.put dst v))
 |.mapUpdate t m ix x,dst=>dZ T t s (s.ev m) (s.ev ix) (s.ev x) (bx fun s'=>K (s'.put dst uv))
 |.makeFunc (.func f) first caps,dst=>jm f (first.toList.map s.ev) (caps.toList.map s.ev) (bx fun v=>K (s.put dst v))
 |.call c,_=>Oi S T o c s k
 |_,_=>bh S o s k
def wpO (S:Sp) (T:Nat→TI) (ops:Array Oper):List Oper→(s:St)→{K:St→Prop}→(k:Box K)→Prop
 |[],s,K,_=>K s
 |o::rest,s,K,k=>
   match o.guard with
   |none=>opA S T o s (bx fun s'=>wpO S T ops rest s' k)
   |some (j,want)=>
     aN ((ops[j]?).bind (·.dst)) (bx fun d=>
      lF (s.f d) (bx fun b=>if b=want then opA S T o { s with f:=upd s.f d (bv b)} (bx fun s'=>wpO S T ops rest s' k)
       else wpO S T ops rest ({ s with f:=upd s.f d (bv b)}.put o.dst uv) k) (bx (wpO S T ops rest (s.put o.dst uv) k)))
def kh {next:St→Prop} (_:Box next) {Q:Exit→St→Prop} (_:Box Q):Exit→St→Prop
 |.normal,s=>next s
 |e,s=>Q e s
def iM (id:Nat) {Q:Exit→St→Prop} (_:Box Q):Exit→St→Prop
 |.exit id',s=>if id'=id then Q .normal s else Q (.exit id') s
 |e,s=>Q e s
def pu (S:Sp) {B:(Exit→St→Prop)→St→Prop} (_:Box B) {Q:Exit→St→Prop} (q:Box Q) (s:St):Prop:=
 ∃I:Nat→St→Prop,(∃n s₁,S.vs s s₁∧I n s₁)∧∀n s,I n s→B (kh (bx fun s'=>∃n' s₁,n'<n∧S.vs s' s₁∧I n' s₁) q) s
def pw {Q:Exit→St→Prop} (_:Box Q):Exit→St→Prop
 |.goto _,_=>False
 |e,s=>Q e s
def ki (S:Sp) (T:Nat→TI) (id:Nat) (ops:Array Oper) (s:St) {Q:Exit→St→Prop} (q:Box Q):Prop:=
 (mN T ops=true∧wpO S T ops ops.toList s (bx fun s'=>Q .normal s'))∨Jj S (.region id ops true) s q
def wpC (S:Sp) (T:Nat→TI):Code→{Q:Exit→St→Prop}→(q:Box Q)→St→Prop
 |.skip,Q,_,s=>Q .normal s
 |.label _,Q,_,s=>Q .normal s
 |.region id ops b,Q,q,s=>match b with|true=>ki S T id ops s q|false=>wpO S T ops ops.toList s (bx fun s'=>Q .normal s')
 |.seq x y,Q,q,s=>wpC S T x (bx (kh (bx fun s'=>wpC S T y q s') q)) s
 |.cond c x y,Q,q,s=>oI (s.ev c) (bx fun b=>if b then wpC S T x q s else wpC S T y q s)
 |.block id c,Q,q,s=>wpC S T c (bx (iM id q)) s
 |.loop c,Q,q,s=>pu S (bx fun Q s=>wpC S T c (bx Q) s) q s
 |.exit id,Q,_,s=>Q (.exit id) s
 |.ret,Q,_,s=>Q .ret s
 |.scope c,_,q,s=>wpC S T c (bx (pw q)) s
 |.goto l,Q,_,s=>Q (.goto l) s
 |c,_,q,s=>Jj S c s q
variable {K:AV→Prop}{s:St}{ty:TypeId}{ps:String}{af:Array Edge}{gd:Option (Nat×Bool)}{dst:Option Tmp}{x:Operand}{t:TypeId}{n:Nat}{Q:Exit→St→Prop}{d:Tmp}{a:Array Operand}{ts:Array TypeId}{next:St→Prop}{c:Code}{ix:Operand}{p:Array (Nat×Operand)}{l:List Oper}{q:Box Q}{b:Box next}
section equations
variable {S:Sp}{T:Nat→TI}
@[go_sem] theorem Jk {K:Bool→Prop} (k:Box K):iL true k=K true:=by simp[iL]
@[go_sem] theorem GQ {K:Bool→Prop} (k:Box K):iL false k=K false:=by simp[iL]
@[go_sem] theorem Gy (p:Prop) [Decidable p] {K:Bool→Prop} (k:Box K):iL (decide p) k=((p→K true)∧(¬p→K false)):=by simp[iL]
@[go_sem] theorem KC (b:Bool) {K:Bool→Prop} (k:Box K):iL (!b) k=iL b (bx fun t=>K (!t)):=by cases b <;> simp[iL]
@[go_sem] theorem Jl {α:Type} (a:α) {K:α→Prop} (k:Box K):aN (some a) k=K a:=j9 rfl rfl
@[go_sem] theorem Nh (b:Bool) {K:Bool→Prop} (k:Box K):oI (.one (.d (.bool b))) k=iL b k:=j9 rfl rfl
@[go_sem] theorem Ni (b:Bool) {K:Bool→Prop} (k:Box K) {U:Prop} (u:Box U):lF (.one (.d (.bool b))) k u=iL b k:=j9 rfl rfl
@[go_sem] theorem Oj {K:Bool→Prop} (k:Box K) {U:Prop} (u:Box U):lF (.tup []) k u=U:=j9 rfl rfl
@[go_sem] theorem Jm :dk .bool=false:=j9 rfl rfl
@[go_sem] theorem Ok :okD .bool=true:=j9 rfl rfl
@[go_sem] theorem KD (kd:IntKind):dk (.int kd)=false:=j9 rfl rfl
@[go_sem] theorem Jn (kd:IntKind):isSlice (.int kd)=false:=j9 rfl rfl
@[go_sem] theorem Rv (kd:IntKind):okD (.int kd)=true:=j9 rfl rfl
@[go_sem] theorem Gz :dk .string=false:=j9 rfl rfl
@[go_sem] theorem Do :isSlice .string=false:=j9 rfl rfl
@[go_sem] theorem GR :mK .string=false:=j9 rfl rfl
@[go_sem] theorem KE :okD .string=true:=j9 rfl rfl
@[go_sem] theorem GS :isStr .string=true:=j9 rfl rfl
@[go_sem] theorem Dp (e:TypeId):dk (.pointer e)=false:=j9 rfl rfl
@[go_sem] theorem Jo (e:TypeId):okD (.pointer e)=true:=j9 rfl rfl
@[go_sem] theorem GT (e:TypeId):dk (.slice e)=false:=j9 rfl rfl
@[go_sem] theorem GA (e:TypeId):isSlice (.slice e)=true:=j9 rfl rfl
@[go_sem] theorem Jp (e:TypeId):mK (.slice e)=false:=j9 rfl rfl
@[go_sem] theorem Nj (e:TypeId):okD (.slice e)=true:=j9 rfl rfl
@[go_sem] theorem Jq (e:TypeId):isStr (.slice e)=false:=j9 rfl rfl
@[go_sem] theorem GU (n:Nat) (e:TypeId):dk (.array n e)=true:=j9 rfl rfl
@[go_sem] theorem Jr (n:Nat) (e:TypeId):mK (.array n e)=true:=j9 rfl rfl
@[go_sem] theorem Nk (n:Nat) (e:TypeId):okD (.array n e)=true:=j9 rfl rfl
@[go_sem] theorem KF (a b:TypeId):dk (.map a b)=false:=j9 rfl rfl
@[go_sem] theorem Rw (a b:TypeId):okD (.map a b)=true:=j9 rfl rfl
@[go_sem] theorem GB (fs:Array Field):dk (.struct fs)=true:=j9 rfl rfl
@[go_sem] theorem KG (fs:Array Field):okD (.struct fs)=true:=j9 rfl rfl
@[go_sem] theorem Js (ps rs:Array TypeId) (v:Bool):dk (.func ps rs v)=false:=j9 rfl rfl
@[go_sem] theorem Ol (ps rs:Array TypeId) (v:Bool):okD (.func ps rs v)=true:=j9 rfl rfl
@[go_sem] theorem Nl (d:TypeDesc) (n b:Nat) (z:List D) (cells:List C) (off:Nat) (k:Box K):sx ⟨d,n,b,z⟩ cells off k=(match dk d with|true=>off+n≤cells.length∧K (.agg ((cells.drop off).take n))|false=>aN (cells[off]?) (bx fun c=>K (.one c))):=j9 rfl rfl
@[go_sem] theorem Nm (d:TypeDesc) (n b:Nat) (z:List D) (cs:List D) (k:Box K):AK ⟨d,n,b,z⟩ cs k=(match dk d with|true=>n≤cs.length∧K (.agg ((cs.take n).map .d))|false=>aN (cs[0]?) (bx fun c=>K (.one (.d c)))):=j9 rfl rfl
@[go_sem] theorem Nn (ti:TI) (s:St) (id g off:Nat) (k:Box K):qY ti s (.one (.ptr id g off)) k=(okD ti.desc=true∧s.gen id=g∧aN (s.obj id) (bx fun cells=>sx ti cells off k)):=j9 rfl rfl
@[go_sem] theorem KH (ti:TI) (s:St) (cs:List D) (k:Box K):qY ti s (.one (.d (.iptr cs))) k=(okD ti.desc=true∧AK ti cs k):=j9 rfl rfl
@[go_sem] theorem KI (ti:TI) (s:St) (id g off:Nat) (x:AV) {K:St→Prop} (k:Box K):qi ti s (.one (.ptr id g off)) x k=(okD ti.desc=true∧s.gen id=g∧aN (cellsOf x) (bx fun cs=>cs.length=ti.size∧aN (s.obj id) (bx fun cells=>off+cs.length≤cells.length∧K { s with obj:=upd s.obj id (some (setAt cells off cs))}))):=j9 rfl rfl
@[go_sem] theorem Jt (c:C):cellsOf (.one c)=some [c]:=j9 rfl rfl
@[go_sem] theorem Ju (cs:List C):cellsOf (.agg cs)=some cs:=j9 rfl rfl
@[go_sem] theorem No (cells:List C) (off:Nat):setAt cells off []=cells:=j9 rfl rfl
@[go_sem] theorem KJ (cells:List C) (off:Nat) (c:C) (cs:List C):setAt cells off (c::cs)=setAt (cells.set off c) (off+1) cs:=j9 rfl rfl
@[go_sem] theorem GV (T:Nat→TI) (n:Nat) (e:TypeId) (s:St) (id g off:Nat) (kd:IntKind) (i:Int) (k:Box K):kP T (.array n e) s (.one (.ptr id g off)) (.one (.d (.int kd i))) k=(s.gen id=g∧(s.obj id).isSome=true∧okD (T e).desc=true∧0≤i∧i<n∧K (.one (.ptr id g (off+i.toNat*(T e).size)))):=j9 rfl rfl
@[go_sem] theorem GC (s:St) (sz:Nat) (es:List (List D)) (kd:IntKind) (i:Int) (k:Box K):iw s sz (.one (.d (.sl es))) (.one (.d (.int kd i))) k=(0≤i∧aN (es[i.toNat]?) (bx fun c=>c.length=sz∧K (.one (.d (.iptr c))))):=j9 rfl rfl
@[go_sem] theorem Dq (s:St) (sz id g sz' off len:Nat) (kd:IntKind) (i:Int) (k:Box K):iw s sz (.one (.osl id g sz' off len)) (.one (.d (.int kd i))) k=(s.gen id=g∧(s.obj id).isSome=true∧0≤i∧i<len∧sz'=sz∧K (.one (.ptr id g (off+i.toNat*sz)))):=j9 rfl rfl
@[go_sem] theorem KK (s:List UInt8) (kd:IntKind) (i:Int) (k:Box K):sy (.one (.d (.str s))) (.one (.d (.int kd i))) k=(0≤i∧aN (s[i.toNat]?) (bx fun c=>K (iv .u8 c.toNat))):=j9 rfl rfl
@[go_sem] theorem Om (kd:IntKind) (x y:Int) (k:Box K):lG .add kd x y k=K (iv kd (kd.wrap (x+y))):=j9 rfl rfl
@[go_sem] theorem GW (a b:IntKind):sameKind .add a b=(a=b):=j9 rfl rfl
@[go_sem] theorem On (kd:IntKind) (x y:Int) (k:Box K):lG .sub kd x y k=K (iv kd (kd.wrap (x-y))):=j9 rfl rfl
@[go_sem] theorem GX (a b:IntKind):sameKind .sub a b=(a=b):=j9 rfl rfl
@[go_sem] theorem Oo (kd:IntKind) (x y:Int) (k:Box K):lG .mul kd x y k=K (iv kd (kd.wrap (x*y))):=j9 rfl rfl
@[go_sem] theorem GY (a b:IntKind):sameKind .mul a b=(a=b):=j9 rfl rfl
@[go_sem] theorem Oq (kd:IntKind) (x y:Int) (k:Box K):lG .quo kd x y k=(y≠0∧K (iv kd (kd.wrap (x.tdiv y)))):=j9 rfl rfl
@[go_sem] theorem GZ (a b:IntKind):sameKind .quo a b=(a=b):=j9 rfl rfl
@[go_sem] theorem Ot (kd:IntKind) (x y:Int) (k:Box K):lG .rem kd x y k=(y≠0∧K (iv kd (x.tmod y))):=j9 rfl rfl
@[go_sem] theorem Ha (a b:IntKind):sameKind .rem a b=(a=b):=j9 rfl rfl
@[go_sem] theorem Ou (kd:IntKind) (x y:Int) (k:Box K):lG .eql kd x y k=K (bv (decide (x=y))):=j9 rfl rfl
@[go_sem] theorem Hb (a b:IntKind):sameKind .eql a b=(a=b):=j9 rfl rfl
@[go_sem] theorem Ov (kd:IntKind) (x y:Int) (k:Box K):lG .neq kd x y k=K (bv (decide (x≠y))):=j9 rfl rfl
@[go_sem] theorem Hc (a b:IntKind):sameKind .neq a b=(a=b):=j9 rfl rfl
@[go_sem] theorem Ow (kd:IntKind) (x y:Int) (k:Box K):lG .lss kd x y k=K (bv (decide (x<y))):=j9 rfl rfl
@[go_sem] theorem Hd (a b:IntKind):sameKind .lss a b=(a=b):=j9 rfl rfl
@[go_sem] theorem Ox (kd:IntKind) (x y:Int) (k:Box K):lG .leq kd x y k=K (bv (decide (x≤y))):=j9 rfl rfl
@[go_sem] theorem He (a b:IntKind):sameKind .leq a b=(a=b):=j9 rfl rfl
@[go_sem] theorem Oy (kd:IntKind) (x y:Int) (k:Box K):lG .gtr kd x y k=K (bv (decide (y<x))):=j9 rfl rfl
@[go_sem] theorem Hf (a b:IntKind):sameKind .gtr a b=(a=b):=j9 rfl rfl
@[go_sem] theorem Oz (kd:IntKind) (x y:Int) (k:Box K):lG .geq kd x y k=K (bv (decide (y≤x))):=j9 rfl rfl
@[go_sem] theorem Hg (a b:IntKind):sameKind .geq a b=(a=b):=j9 rfl rfl
@[go_sem] theorem OA (kd:IntKind) (x y:Int) (k:Box K):lG .and kd x y k=K (iv kd (kd.wrap (BitVec.ofInt kd.bits x &&&BitVec.ofInt kd.bits y).toNat)):=j9 rfl rfl
@[go_sem] theorem Hh (a b:IntKind):sameKind .and a b=(a=b):=j9 rfl rfl
@[go_sem] theorem Rx (kd:IntKind) (x y:Int) (k:Box K):lG .or kd x y k=K (iv kd (kd.wrap (BitVec.ofInt kd.bits x |||BitVec.ofInt kd.bits y).toNat)):=j9 rfl rfl
@[go_sem] theorem Jv (a b:IntKind):sameKind .or a b=(a=b):=j9 rfl rfl
@[go_sem] theorem OB (kd:IntKind) (x y:Int) (k:Box K):lG .shl kd x y k=(0≤y∧K (iv kd (kd.wrap (x*2^(min y.toNat kd.bits))))):=j9 rfl rfl
@[go_sem] theorem Hi (a b:IntKind):sameKind .shl a b=True:=j9 rfl rfl
@[go_sem] theorem OC (kd:IntKind) (x y:Int) (k:Box K):lG .shr kd x y k=(0≤y∧K (iv kd (x.fdiv (2^(min y.toNat kd.bits))))):=j9 rfl rfl
@[go_sem] theorem Hj (a b:IntKind):sameKind .shr a b=True:=j9 rfl rfl
@[go_sem] theorem OD (x y:List UInt8) (k:Box K):zg .add x y k=(((x.length+y.length:Nat):Int)≤9223372036854775807∧K (sv (x++y))):=j9 rfl rfl
@[go_sem] theorem OE (x y:List UInt8) (k:Box K):zg .eql x y k=K (bv (decide (x=y))):=j9 rfl rfl
@[go_sem] theorem OF (x y:List UInt8) (k:Box K):zg .neq x y k=K (bv (decide (x≠y))):=j9 rfl rfl
@[go_sem] theorem OG (d:TypeDesc) (op:BinOp) (k1 k2:IntKind) (a b:Int) (k:Box K):zi T d op (.one (.d (.int k1 a))) (.one (.d (.int k2 b))) k=(sameKind op k1 k2∧lG op k1 a b k):=j9 rfl rfl
@[go_sem] theorem OH (d:TypeDesc) (op:BinOp) (a b:List UInt8) (k:Box K):zi T d op (.one (.d (.str a))) (.one (.d (.str b))) k=zg op a b k:=j9 rfl rfl
@[go_sem] theorem Np (d:TypeDesc) (op:BinOp) (a b:Bool) (k:Box K):zi T d op (.one (.d (.bool a))) (.one (.d (.bool b))) k=GM d op a b k:=j9 rfl rfl
@[go_sem] theorem OI (a b:Bool) (k:Box K):GM .bool .neq a b k=K (bv (decide (a≠b))):=j9 rfl rfl
@[go_sem] theorem Ry (b:Bool) (k:Box K):unA .not (.one (.d (.bool b))) k=K (bv (!b)):=j9 rfl rfl
@[go_sem] theorem Nq (st:St) (el:TypeDesc) (src:TypeDesc) (kd k2:IntKind) (n:Int) (k:Box K):qZ st el src (.int kd) (.one (.d (.int k2 n))) k=(okD src=true∧K (iv kd (kd.wrap n))):=by cases src <;> rfl
@[go_sem] theorem Jw (st:St) (el:TypeDesc) (e:TypeId) (y:AV) (k:Box K):qZ st el (.slice e) .string y k=(vE el=true∧contents st false true 1 y (bx fun _ cs=>aN (u8s cs) (bx fun ns=>K (sv (ns.map fun n=>UInt8.ofNat n.toNat))))):=by cases y <;> rfl
@[go_sem] theorem Rz:vE (.int .u8)=true:=j9 rfl rfl
@[go_sem] theorem Jx (s:St) (bs bl:Bool) (sz:Nat) (es:List (List D)) {K:Nat→List C→Prop} (k:Box K):contents s bs bl sz (.one (.d (.sl es))) k=(bl=true∧(∀e∈es,e.length=sz)∧K es.length (es.flatten.map .d)):=j9 rfl rfl
@[go_sem] theorem Hk (s:St) (bs bl:Bool) (sz id g sz' off len:Nat) {K:Nat→List C→Prop} (k:Box K):contents s bs bl sz (.one (.osl id g sz' off len)) k=(bl=true∧s.gen id=g∧sz'=sz∧aN (s.obj id) (bx fun cells=>off+len*sz≤cells.length∧K len ((cells.drop off).take (len*sz)))):=j9 rfl rfl
@[go_sem] theorem Jy (e:Nat) (ti:TI) (bs bl:Bool) (i d:Nat) (s:St) (y:AV) {K:St→Prop} (k:Box K):lH e ti bs bl i d s (.one (.d .nsl)) y k=contents s bs bl ti.size y (bx fun n cs=>sA n ti.bytes∧K ((s.newC (e+1) i cs).put (some d) (.one (.osl i (nxC (e+1) (s.gen i)) ti.size 0 n)))):=j9 rfl rfl
@[go_sem] theorem Jz (e:Nat) (ti:TI) (bs bl:Bool) (i d:Nat) (s:St) (id g sz off len:Nat) (y:AV) {K:St→Prop} (k:Box K):lH e ti bs bl i d s (.one (.osl id g sz off len)) y k=(s.gen id=g∧sz=ti.size∧aN (s.obj id) (bx fun cells=>off+len*sz≤cells.length∧
   contents s bs bl ti.size y (bx fun n cs=>sA (len+n) ti.bytes∧
    K ((s.newC (apC e (s.gen id) off) id ((cells.drop off).take (len*sz)++cs)).put (some d) (.one (.osl id (nxC (apC e (s.gen id) off) (s.gen id)) ti.size 0 (len+n))))))):=j9 rfl rfl
@[go_sem] theorem RA (s:St) (bs bl:Bool) (es:List (List D)) (k:Box K):wS s bs bl (.one (.d (.sl es))) k=(bl=true∧K (iv .i64 es.length)):=j9 rfl rfl
@[go_sem] theorem OJ (s:St) (bs bl:Bool) (es:List UInt8) (k:Box K):wS s bs bl (.one (.d (.str es))) k=(bs=true∧K (iv .i64 es.length)):=j9 rfl rfl
@[go_sem] theorem OK (s:St) (bs bl:Bool) (id g sz off len:Nat) (k:Box K):wS s bs bl (.one (.osl id g sz off len)) k=(bl=true∧s.gen id=g∧(s.obj id).isSome=true∧K (iv .i64 len)):=j9 rfl rfl
@[go_sem] theorem JA (n:Nat) {K:Nat→Prop} (k:Box K):fT none n k=K n:=j9 rfl rfl
@[go_sem] theorem JB (n:Nat) (kd:IntKind) (i:Int) {K:Nat→Prop} (k:Box K):fT (some (.one (.d (.int kd i)))) n k=(0≤i∧K i.toNat):=j9 rfl rfl
@[go_sem] theorem KL (st:St) (bs bl:Bool) (sz:Nat) (s:List UInt8) (lo hi:Option AV) (k:Box K):oJ st bs bl sz (.one (.d (.str s))) lo hi k=(bs=true∧fT hi s.length (bx fun h=>fT lo 0 (bx fun l=>l≤h∧h≤s.length∧K (sv ((s.take h).drop l))))):=j9 rfl rfl
@[go_sem] theorem KM (s:St) (bs bl:Bool) (sz id g sz' off len:Nat) (lo hi:Option AV) (k:Box K):oJ s bs bl sz (.one (.osl id g sz' off len)) lo hi k=(bl=true∧s.gen id=g∧(s.obj id).isSome=true∧fT hi len (bx fun h=>fT lo 0 (bx fun l=>l≤h∧h≤len∧sz'=sz∧K (.one (.osl id g sz (off+l*sz) (h-l)))))):=j9 rfl rfl
@[go_sem] theorem OL (sz n:Nat) {K:List C→Prop} (k:Box K):wT sz n [] k=K []:=j9 rfl rfl
@[go_sem] theorem Nr (sz n i:Nat) (x:AV) (r:List (Nat×AV)) {K:List C→Prop} (k:Box K):wT sz n ((i,x)::r) k=(i=n∧aN (cellsOf x) (bx fun cs=>cs.length=sz∧wT sz (n+1) r (bx fun rest=>K (cs++rest)))):=j9 rfl rfl
@[go_sem] theorem Dr (e sz i d n:Nat) (s:St) (ps:List (Nat×AV)) {K:St→Prop} (k:Box K):jx e sz i d n s ps k=(ps.length=n∧n*sz≤16777216∧wT sz 0 ps (bx fun cs=>K ((s.newC (e+1) i cs).put (some d) (.one (.osl i (nxC (e+1) (s.gen i)) sz 0 n))))):=j9 rfl rfl
@[go_sem] theorem Ds (fs:Array Field) (f:Nat):il (.struct fs) f=fs[f]?:=j9 rfl rfl
@[go_sem] theorem Dt (t f:Nat) (s:St) (id g off:Nat) (k:Box K):iy T t f s (.one (.ptr id g off)) k=(s.gen id=g∧(s.obj id).isSome=true∧aN (il (T t).desc f) (bx fun fl=>(okD (T fl.type).desc=true∧(T fl.type).size≠0)∧K (.one (.ptr id g (off+fl.offset))))):=j9 rfl rfl
@[go_sem] theorem Dl (t f:Nat) (s:St) (cs:List D) (k:Box K):iy T t f s (.one (.d (.iptr cs))) k=aN (il (T t).desc f) (bx fun fl=>(okD (T fl.type).desc=true∧(T fl.type).size≠0)∧K (.one (.d (.iptr (cs.drop fl.offset))))):=j9 rfl rfl
@[go_sem] theorem KN (t f:Nat) (cs:List C) (k:Box K):qj T t f (.agg cs) k=aN (il (T t).desc f) (bx fun fl=>okD (T fl.type).desc=true∧sx (T fl.type) cs fl.offset k):=j9 rfl rfl
@[go_sem] theorem Ns (pl:Nat→Option (Nat×Nat)) (cells:List C) {K:List C→Prop} (k:Box K):rc pl cells [] k=K cells:=j9 rfl rfl
@[go_sem] theorem KO (pl:Nat→Option (Nat×Nat)) (cells:List C) (i:Nat) (x:AV) (r:List (Nat×AV)) {K:List C→Prop} (k:Box K):rc pl cells ((i,x)::r) k=aN (pl i) (bx fun q=>aN (cellsOf x) (bx fun cs=>cs.length=q.2∧q.1+q.2≤cells.length∧rc pl (setAt cells q.1 cs) r k)):=j9 rfl rfl
@[go_sem] theorem KP (fs:Array Field) (i:Nat):placeOf T (.struct fs) i=(il (.struct fs) i).bind fun fl=>bif okD (T fl.type).desc then some (fl.offset,(T fl.type).size) else none:=j9 rfl rfl
@[go_sem] theorem Nt (t:Nat) (ps:List (Nat×AV)) (k:Box K):ff T t ps k=(fU T t=true∧rc (placeOf T (T t).desc) ((T t).zero.map .d) ps (bx fun cs=>K (.agg cs))):=j9 rfl rfl
@[go_sem] theorem RB (t i d:Nat) (s:St) (x:AV) {K:St→Prop} (k:Box K):GP t i d s x k=aN (cellsOf x) (bx fun cs=>K ((s.newC (t+1) i cs).put (some d) (.one (.ptr i (nxC (t+1) (s.gen i)) 0)))):=j9 rfl rfl
@[go_sem] theorem Nu (t:Nat) (ti:TI) (i d:Nat) (s:St) {K:St→Prop} (k:Box K):vF t ti i d s k=(okD ti.desc=true∧K ((s.newC (t+1) i (ti.zero.map .d)).put (some d) (.one (.ptr i (nxC (t+1) (s.gen i)) 0)))):=j9 rfl rfl
@[go_sem] theorem GD (s:St) (id g off:Nat) (k:Box K):jk s (.one (.ptr id g off)) k=(s.gen id=g∧(s.obj id).isSome=true∧K (.one (.ptr id g off))):=j9 rfl rfl
@[go_sem] theorem Du (s:St) (cs:List D) (k:Box K):jk s (.one (.d (.iptr cs))) k=K (.one (.d (.iptr cs))):=j9 rfl rfl
@[go_sem] theorem Hl (ts:List AV) (i:Nat) (k:Box K):mL (.tup ts) i k=aN (ts[i]?) k:=j9 rfl rfl
@[go_sem] theorem RC (k1 k2:IntKind) (a b:Int) (k:Box K):mxA true (.one (.d (.int k1 a))) (.one (.d (.int k2 b))) k=K (iv k1 (max a b)):=j9 rfl rfl
@[go_sem] theorem GE (e:Nat) (ti:TI) (i d:Nat) (s:St) (k1 k2:IntKind) (n m:Int) {K:St→Prop} (k:Box K):jl e ti i d s (.one (.d (.int k1 n))) (.one (.d (.int k2 m))) k=(0≤n∧n≤m∧m≤4611686018427387904∧m*ti.bytes≤281474976710656∧
   K ((s.newC (e+1) i (List.replicate m.toNat (ti.zero.map C.d)).flatten).put (some d) (.one (.osl i (nxC (e+1) (s.gen i)) ti.size 0 n.toNat)))):=j9 rfl rfl
@[go_sem] theorem Nv (k k':IntKind) (n:Int):gO (.int k) (.int k' n)=decide (k'=k):=j9 rfl rfl
@[go_sem] theorem Nw (s:List UInt8):gO .string (.str s)=true:=j9 rfl rfl
@[go_sem] theorem JC:jU (.int .i64)=3:=j9 rfl rfl
@[go_sem] theorem JD:jU .string=8:=j9 rfl rfl
@[go_sem] theorem Nx:df 3=.int .i64:=j9 rfl rfl
@[go_sem] theorem Ny:df 8=.string:=j9 rfl rfl
@[go_sem] theorem RD (n:Nat):uI true n=200+n:=j9 rfl rfl
@[go_sem] theorem RE (n:Nat):uI false n=n:=j9 rfl rfl
@[go_sem] theorem OM (d:TypeDesc) (a b:Nat) (z:List D) {K:List D→Prop} (k:Box K):wV ⟨d,a,b,z⟩ k=((okD d=true∧2≤z.length)∧K z):=j9 rfl rfl
@[go_sem] theorem ON (z:List D) (c:Option C):lI true z c=.tup [.agg ((ul z c).map .d),bv c.isSome]:=j9 rfl rfl
@[go_sem] theorem OO (z:List D) (c:Option C):lI false z c=.agg ((ul z c).map .d):=j9 rfl rfl
@[go_sem] theorem Nz (z:List D):ul z none=z:=j9 rfl rfl
@[go_sem] theorem NA (z ds:List D):ul z (some (.d (.iptr ds)))=ds:=j9 rfl rfl
@[go_sem] theorem NB:datas []=some []:=j9 rfl rfl
@[go_sem] theorem KQ (x:D) (r:List C):datas (.d x::r)=(datas r).map (x :: ·):=j9 rfl rfl
@[go_sem] theorem JE (t i d:Nat) (s:St) {K:St→Prop} (k:Box K):kR T t i d s k=(match (T t).desc with
 |.map kt et=>df (jU (T kt).desc)=(T kt).desc∧K ((s.newC 0 i []).put (some d) (.one (.mp i (nxC 0 (s.gen i)) (uI (dk (T et).desc) (jU (T kt).desc)))))
 | _=>False):=j9 rfl rfl
@[go_sem] theorem OP (d:TypeDesc) (a b:Nat) (z:D) {K:D→Prop} (k:Box K):wU ⟨d,a,b,[z]⟩ k=((okD d=true∧dk d=false)∧K z):=j9 rfl rfl
@[go_sem] theorem KR (t:Nat) (s:St) (x:AV) (k:D) (ok:Bool) (b:Box K):lJ T t s x (.one (.d k)) ok b=(match (T t).desc with
 |.map kt et=>(okD (T kt).desc=true∧gO (T kt).desc k=true)∧
   match dk (T et).desc with
   | false=>wU (T et) (bx fun z=>
     match x with
     |.one (.mp id g kd)=>s.gen id=g∧df kd=(T kt).desc∧aN (s.obj id) (bx fun cells=>K (rf ok z (mget cells k)))
     |.one (.d .nilm)=>K (rf ok z none)
     | _=>False)
   | true=>wV (T et) (bx fun z=>
     match x with
     |.one (.mp id g kd)=>s.gen id=g∧(200≤kd∧df (kd-200)=(T kt).desc)∧aN (s.obj id) (bx fun cells=>K (lI ok z (mget cells k)))
     |.one (.d .nilm)=>K (lI ok z none)
     | _=>False)
 | _=>False):=by unfold lJ;cases (T t).desc <;> rfl
@[go_sem] theorem Dv (t:Nat) (s:St) (id g kd:Nat) (k:D) (cs:List C) {K:St→Prop} (b:Box K):dZ T t s (.one (.mp id g kd)) (.one (.d k)) (.agg cs) b=(match (T t).desc with
 |.map kt _=>(okD (T kt).desc=true∧gO (T kt).desc k=true)∧s.gen id=g∧(200≤kd∧df (kd-200)=(T kt).desc)∧aN (datas cs) (bx fun ds=>aN (s.obj id) (bx fun cells=>K { s with obj:=upd s.obj id (some (mset cells k (.d (.iptr ds))))}))
 | _=>False):=by unfold dZ;cases (T t).desc <;> rfl
@[go_sem] theorem GF (t:Nat) (s:St) (id g kd:Nat) (k:D) (c:C) {K:St→Prop} (b:Box K):dZ T t s (.one (.mp id g kd)) (.one (.d k)) (.one c) b=(match (T t).desc with
 |.map kt _=>(okD (T kt).desc=true∧gO (T kt).desc k=true)∧s.gen id=g∧df kd=(T kt).desc∧aN (s.obj id) (bx fun cells=>K { s with obj:=upd s.obj id (some (mset cells k c))})
 | _=>False):=by unfold dZ;cases (T t).desc <;> rfl
@[go_sem] theorem OQ (id g off:Nat):BV (.one (.ptr id g off))=some (.ptr id g off):=j9 rfl rfl
@[go_sem] theorem NC:kS []=some []:=j9 rfl rfl
@[go_sem] theorem KS (x:AV) (xs:List AV):kS (x::xs)=(BV x).bind fun p=>(kS xs).bind fun ps=>some (p::ps):=j9 rfl rfl
@[go_sem] theorem GG (f:FuncId) (caps:List AV) (k:Box K):jm f [] caps k=(f<1000000∧aN (kS caps) (bx fun l=>K (.one (.clo f l)))):=j9 rfl rfl
@[go_sem] theorem Dw (f:FuncId) (x:AV) (r:List AV) (k:Box K):jm f (x::r) [] k=aN (kS (x::r)) (bx fun l=>K (.one (.clo (f+1000000) l))):=propext ⟨fun h=>h.2,fun h=>⟨rfl,h⟩⟩
@[go_sem] theorem OR{K:St→Prop}{k:Box K}:opA S T ⟨dst,.move x,ty,ps,af,gd⟩ s k=K (s.put dst (s.ev x)):=j9 rfl rfl
@[go_sem] theorem KT{K:St→Prop}{k:Box K}:opA S T ⟨dst,.assign x,ty,ps,af,gd⟩ s k=K (s.put dst (s.ev x)):=j9 rfl rfl
@[go_sem] theorem OS{K:St→Prop}{k:Box K}{c a b:Operand}:opA S T ⟨dst,.pick c a b,ty,ps,af,gd⟩ s k=oI (s.ev c) (bx fun t=>K (s.put dst (if t then s.ev a else s.ev b))):=j9 rfl rfl
@[go_sem] theorem OT{K:St→Prop}{k:Box K}{a:Operand}:opA S T ⟨dst,.load t a,ty,ps,af,gd⟩ s k=qY (T t) s (s.ev a) (bx fun v=>K (s.put dst v)):=j9 rfl rfl
@[go_sem] theorem ND{K:St→Prop}{k:Box K}{a x:Operand}:opA S T ⟨dst,.store t a x,ty,ps,af,gd⟩ s k=qi (T t) s (s.ev a) (s.ev x) (bx fun s'=>K (s'.put dst uv)):=j9 rfl rfl
@[go_sem] theorem GH{K:St→Prop}{k:Box K}{x:Nat}:opA S T ⟨dst,.indexAddr t (.tmp x) ix,ty,ps,af,gd⟩ s k=(bif mK (T t).desc then kP T (T t).desc s (s.f x) (s.ev ix) (bx fun v=>K (s.put dst v)) else dg T t=true∧iw s (aV T t).size (s.f x) (s.ev ix) (bx fun v=>K (s.put dst v))):=j9 rfl rfl
@[go_sem] theorem OU{K:St→Prop}{k:Box K}{t g:Nat}:opA S T ⟨dst,.indexAddr t (.global g) ix,ty,ps,af,gd⟩ s k=bh S ⟨dst,.indexAddr t (.global g) ix,ty,ps,af,gd⟩ s k:=j9 rfl rfl
@[go_sem] theorem NE{K:St→Prop}{k:Box K}{x ix:Operand}:opA S T ⟨dst,.index t x ix,ty,ps,af,gd⟩ s k=(isStr (T t).desc=true∧sy (s.ev x) (s.ev ix) (bx fun v=>K (s.put dst v))):=j9 rfl rfl
@[go_sem] theorem NF{K:St→Prop}{k:Box K}{o:BinOp}{t u:TypeId}{x y:Operand}:opA S T ⟨dst,.binOp o t x y u,ty,ps,af,gd⟩ s k=zi T (T t).desc o (s.ev x) (s.ev y) (bx fun v=>K (s.put dst v)):=j9 rfl rfl
@[go_sem] theorem OV{K:St→Prop}{k:Box K}{o:UnOp}:opA S T ⟨dst,.unOp o t x,ty,ps,af,gd⟩ s k=unA o (s.ev x) (bx fun v=>K (s.put dst v)):=j9 rfl rfl
@[go_sem] theorem JF{K:St→Prop}{k:Box K}{t u:TypeId}:opA S T ⟨dst,.convert t u x,ty,ps,af,gd⟩ s k=(bif isSlice (T u).desc then lK T t u S.base dst s (s.ev x) k else qZ s (aV T t).desc (T t).desc (T u).desc (s.ev x) (bx fun v=>K (s.put dst v))):=j9 rfl rfl
@[go_sem] theorem JG (T:Nat→TI) (src d base dd:Nat) (s:St) (bs:List UInt8) {K:St→Prop} (k:Box K):lK T src d base (some dd) s (.one (.d (.str bs))) k=(isStr (T src).desc=true∧vE (aV T d).desc=true∧K ((s.newC (aD T d+1) (base+dd) (bs.map fun b=>.d (uG b))).put (some dd) (.one (.osl (base+dd) (nxC (aD T d+1) (s.gen (base+dd))) 1 0 bs.length)))):=j9 rfl rfl
@[go_sem] theorem NG{K:St→Prop}{k:Box K}{lo hi:Option Operand}:opA S T ⟨dst,.slice t x lo hi none,ty,ps,af,gd⟩ s k=(bif mK (T t).desc then kQ T (T t).desc s (s.ev x) (lo.map s.ev) (hi.map s.ev) (bx fun v=>K (s.put dst v)) else oJ s (isStr (T t).desc) (dg T t) (aV T t).size (s.ev x) (lo.map s.ev) (hi.map s.ev) (bx fun v=>K (s.put dst v))):=j9 rfl rfl
@[go_sem] theorem Dx{K:St→Prop}{k:Box K}{t n:Nat}:opA S T ⟨(some d),.buildSlice t n p,ty,ps,af,gd⟩ s k=(dg T t=true∧jx (aD T t) (aV T t).size (S.base+d) d n s (p.toList.map fun p=>(p.1,s.ev p.2)) k):=j9 rfl rfl
@[go_sem] theorem GI{K:St→Prop}{k:Box K}{l c:Operand}:opA S T ⟨(some d),.makeSlice t l c,ty,ps,af,gd⟩ s k=(dg T t=true∧jl (aD T t) (aV T t) (S.base+d) d s (s.ev l) (s.ev c) k):=j9 rfl rfl
@[go_sem] theorem RF{K:St→Prop}{k:Box K}:opA S T ⟨dst,.call ⟨.builtin .len,a,ts⟩,ty,ps,af,gd⟩ s k=((a.size=1∧ts.size=1)∧wS s (isStr (T (ts.getD 0 0)).desc) (dg T (ts.getD 0 0)) (s.ev (a.getD 0 (.const .nilFunc))) (bx fun v=>K (s.put dst v))):=j9 rfl rfl
@[go_sem] theorem KU{K:St→Prop}{k:Box K}:opA S T ⟨(some d),.call ⟨.builtin .append,a,ts⟩,ty,ps,af,gd⟩ s k=((a.size=2∧ts.size=2)∧dg T (ts.getD 0 0)=true∧lH (aD T (ts.getD 0 0)) (aV T (ts.getD 0 0)) (isStr (T (ts.getD 1 0)).desc) (dg T (ts.getD 1 0)) (S.base+d) d s (s.ev (a.getD 0 (.const .nilFunc))) (s.ev (a.getD 1 (.const .nilFunc))) k):=j9 rfl rfl
@[go_sem] theorem GJ{K:St→Prop}{k:Box K}{t f:Nat}:opA S T ⟨dst,.fieldAddr t x f,ty,ps,af,gd⟩ s k=iy T t f s (s.ev x) (bx fun v=>K (s.put dst v)):=j9 rfl rfl
@[go_sem] theorem NH{K:St→Prop}{k:Box K}{t f:Nat}:opA S T ⟨dst,.field t x f,ty,ps,af,gd⟩ s k=qj T t f (s.ev x) (bx fun v=>K (s.put dst v)):=j9 rfl rfl
@[go_sem] theorem NI{K:St→Prop}{k:Box K}{t:Nat}:opA S T ⟨dst,.build t p,ty,ps,af,gd⟩ s k=ff T t (p.toList.map fun p=>(p.1,s.ev p.2)) (bx fun v=>K (s.put dst v)):=j9 rfl rfl
@[go_sem] theorem Hm{K:St→Prop}{k:Box K}:opA S T ⟨dst,.nilCheck x,ty,ps,af,gd⟩ s k=jk s (s.ev x) (bx fun v=>K (s.put dst v)):=j9 rfl rfl
@[go_sem] theorem JH{K:St→Prop}{k:Box K}{i:Nat}:opA S T ⟨dst,.extract x i,ty,ps,af,gd⟩ s k=mL (s.ev x) i (bx fun v=>K (s.put dst v)):=j9 rfl rfl
@[go_sem] theorem RG{K:St→Prop}{k:Box K}{t:Nat}:opA S T ⟨(some d),.box t x,ty,ps,af,gd⟩ s k=GP t (S.base+d) d s (s.ev x) k:=j9 rfl rfl
@[go_sem] theorem NJ{K:St→Prop}{k:Box K}{t:Nat}:opA S T ⟨(some d),.alloc t,ty,ps,af,gd⟩ s k=vF t (T t) (S.base+d) d s k:=j9 rfl rfl
@[go_sem] theorem JI{K:St→Prop}{k:Box K}:opA S T ⟨(some d),.makeMap t none,ty,ps,af,gd⟩ s k=kR T t (S.base+d) d s k:=j9 rfl rfl
@[go_sem] theorem KV{K:St→Prop}{k:Box K}{x ix:Operand}{ok:Bool}:opA S T ⟨dst,.lookup t x ix ok,ty,ps,af,gd⟩ s k=lJ T t s (s.ev x) (s.ev ix) ok (bx fun v=>K (s.put dst v)):=j9 rfl rfl
@[go_sem] theorem GK{K:St→Prop}{k:Box K}{m ix x:Operand}:opA S T ⟨dst,.mapUpdate t m ix x,ty,ps,af,gd⟩ s k=dZ T t s (s.ev m) (s.ev ix) (s.ev x) (bx fun s'=>K (s'.put dst uv)):=j9 rfl rfl
@[go_sem] theorem Hn{K:St→Prop}{k:Box K}{f:FuncId}{first caps:Array Operand}:opA S T ⟨dst,.makeFunc (.func f) first caps,ty,ps,af,gd⟩ s k=jm f (first.toList.map s.ev) (caps.toList.map s.ev) (bx fun v=>K (s.put dst v)):=j9 rfl rfl
@[go_sem] theorem RH{K:St→Prop}{k:Box K}:opA S T ⟨dst,.call ⟨.builtin .max,a,ts⟩,ty,ps,af,gd⟩ s k=(a.size=2∧mxA true (s.ev (a.getD 0 (.const .nilFunc))) (s.ev (a.getD 1 (.const .nilFunc))) (bx fun v=>K (s.put dst v))):=j9 rfl rfl
@[go_sem] theorem OW{K:St→Prop}{k:Box K}{f:Operand}:opA S T ⟨dst,.call ⟨.value f,a,ts⟩,ty,ps,af,gd⟩ s k=bh S ⟨dst,.call ⟨.value f,a,ts⟩,ty,ps,af,gd⟩ s k:=j9 rfl rfl
@[go_sem] theorem Sv (s:St) (t:Nat):s.ev (.tmp t)=s.f t:=j9 rfl rfl
@[go_sem] theorem OX (s:St) (v:Value):s.ev (.const v)=vC v:=j9 rfl rfl
@[go_sem] theorem RI (s:St) (f:Nat):s.ev (.func f)=.one (.d (.fn f)):=j9 rfl rfl
@[go_sem] theorem NK (b:Bool):vC (.bool b)=bv b:=j9 rfl rfl
@[go_sem] theorem OY (k:IntKind) (n:Int):vC (.int k n)=iv k n:=j9 rfl rfl
@[go_sem] theorem JJ (s:ByteArray):vC (.string s)=sv s.data.toList:=j9 rfl rfl
@[go_sem] theorem OZ :vC (.slice none 0 0)=.one (.d .nsl):=j9 rfl rfl
@[go_sem] theorem NL :vC (.pointer none)=.one (.d .nilp):=j9 rfl rfl
@[go_sem] theorem Hp:kh b q .normal s=next s:=j9 rfl rfl
@[go_sem] theorem NM:kh b q .ret s=Q .ret s:=j9 rfl rfl
@[go_sem] theorem KW:kh b q (.exit n) s=Q (.exit n) s:=j9 rfl rfl
@[go_sem] theorem Dm:iM n q .normal s=Q .normal s:=j9 rfl rfl
@[go_sem] theorem Hq:iM n q .ret s=Q .ret s:=j9 rfl rfl
@[go_sem] theorem GL {n m:Nat}:iM n q (.exit m) s=(if m=n then Q .normal s else Q (.exit m) s):=j9 rfl rfl
@[go_sem] theorem JK:pw q .ret s=Q .ret s:=j9 rfl rfl
@[go_sem] theorem RJ (c:Nat) (s:St) (d:Nat) (cs:List C):s.newC c d cs = { s with gen:=upd s.gen d (nxC c (s.gen d)),obj:=upd s.obj d (some cs)}:=j9 rfl rfl
section steps
variable {f:Nat→AV}{g:Nat→Nat}{ob:Nat→Option (List C)}{Q:Exit→St→Prop}{q:Box Q}{K:St→Prop}{k:Box K}{ops:Array Oper}{rest:List Oper}
@[go_sem] theorem Pa:wpC S T .skip q ⟨f,g,ob⟩=Q .normal ⟨f,g,ob⟩:=j9 rfl rfl
@[go_sem] theorem NN:wpC S T (.label n) q ⟨f,g,ob⟩=Q .normal ⟨f,g,ob⟩:=j9 rfl rfl
@[go_sem] theorem NO:wpC S T (.scope c) q ⟨f,g,ob⟩=wpC S T c (bx (pw q)) ⟨f,g,ob⟩:=j9 rfl rfl
@[go_sem] theorem Pb:wpC S T (.region n l.toArray true) q ⟨f,g,ob⟩=ki S T n l.toArray ⟨f,g,ob⟩ q:=j9 rfl rfl
@[go_sem] theorem KX:wpC S T (.region n l.toArray false) q ⟨f,g,ob⟩=wpO S T l.toArray l ⟨f,g,ob⟩ (bx fun s'=>Q .normal s'):=by simp[wpC]
@[go_sem] theorem RK {x y:Code}:wpC S T (.seq x y) q ⟨f,g,ob⟩=wpC S T x (bx (kh (bx fun s'=>wpC S T y q s') q)) ⟨f,g,ob⟩:=j9 rfl rfl
@[go_sem] theorem Pc {c:Operand}{x y:Code}:wpC S T (.cond c x y) q ⟨f,g,ob⟩=oI (St.ev ⟨f,g,ob⟩ c) (bx fun b=>if b then wpC S T x q ⟨f,g,ob⟩ else wpC S T y q ⟨f,g,ob⟩):=j9 rfl rfl
@[go_sem] theorem NP:wpC S T (.block n c) q ⟨f,g,ob⟩=wpC S T c (bx (iM n q)) ⟨f,g,ob⟩:=j9 rfl rfl
@[go_sem] theorem Pd:wpC S T (.loop c) q ⟨f,g,ob⟩=pu S (bx fun Q s=>wpC S T c (bx Q) s) q ⟨f,g,ob⟩:=j9 rfl rfl
@[go_sem] theorem Pe:wpC S T (.exit n) q ⟨f,g,ob⟩=Q (.exit n) ⟨f,g,ob⟩:=j9 rfl rfl
@[go_sem] theorem RL:wpC S T .ret q ⟨f,g,ob⟩=Q .ret ⟨f,g,ob⟩:=j9 rfl rfl
@[go_sem] theorem RM:wpO S T ops [] ⟨f,g,ob⟩ k=K ⟨f,g,ob⟩:=j9 rfl rfl
@[go_sem] theorem Pf{op:Op} :
  wpO S T ops (⟨dst,op,ty,ps,af,none⟩::rest) ⟨f,g,ob⟩ k=opA S T ⟨dst,op,ty,ps,af,none⟩ ⟨f,g,ob⟩ (bx fun s'=>wpO S T ops rest s' k):=j9 rfl rfl
@[go_sem] theorem Pg{op:Op}{j:Nat}{want:Bool} :
  wpO S T ops (⟨dst,op,ty,ps,af,some (j,want)⟩::rest) ⟨f,g,ob⟩ k =
   aN ((ops[j]?).bind (·.dst)) (bx fun d=>
    lF (f d) (bx fun b=>if b=want then opA S T ⟨dst,op,ty,ps,af,some (j,want)⟩ ⟨upd f d (bv b),g,ob⟩ (bx fun s'=>wpO S T ops rest s' k)
     else wpO S T ops rest (St.put ⟨upd f d (bv b),g,ob⟩ dst uv) k) (bx (wpO S T ops rest (St.put ⟨f,g,ob⟩ dst uv) k))):=j9 rfl rfl
end steps
@[go_sem] theorem NQ {α:Type} (f:Nat→α) (i j:Nat) (v:α):upd f i v j=if j=i then v else f j:=j9 rfl rfl
@[go_sem] theorem St.put_some (s:St) (d:Nat) (v:AV):s.put (some d) v = { s with f:=upd s.f d v }:=j9 rfl rfl
@[go_sem] theorem St.put_none (s:St) (v:AV):s.put none v=s:=j9 rfl rfl
attribute [go_sem] Nat.reduceEqDiff Nat.reduceAdd Nat.reduceMul Nat.reduceSub Nat.reduceLT Nat.reduceLeDiff Int.reduceLT Int.reduceLE Int.reduceEq Int.reduceNe Int.reduceAdd Int.reduceNeg Int.reduceToNat
attribute [go_sem] if_true if_false ite_true ite_false and_true true_and List.length_map List.length_cons List.length_nil List.size_toArray Option.bind_some Option.map_some Option.map_none Option.bind_none cond_true cond_false List.append_nil List.cons_append List.set_cons_zero List.set_cons_succ List.set_nil List.drop_succ_cons List.take_succ_cons List.take_zero
attribute [go_sem] Array.getD_eq_getD_getElem? List.getElem?_toArray List.getElem?_cons_zero List.getElem?_cons_succ List.getElem?_nil Option.getD_some Option.getD_none List.getElem?_map
attribute [go_sem] List.drop_zero List.take_length Nat.mul_one Nat.zero_add List.map_cons List.map_nil List.nil_append reduceCtorEq not_true_eq_false not_false_eq_true implies_true Bool.not_true Bool.not_false Bool.true_eq_false Bool.false_eq_true
attribute [go_sem] Option.some.injEq Option.isSome_some decide_true decide_false ne_eq Int.toNat_natCast
end equations
end
end
end Go.Am

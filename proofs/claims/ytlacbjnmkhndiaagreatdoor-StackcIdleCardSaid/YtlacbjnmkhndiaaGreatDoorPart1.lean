/- A part of the proof; no conditions. -/
import Derived.KernelRfl
import Derived.StillTail
import Derived.Deep.Quiet
set_option linter.unusedSimpArgs false
set_option linter.unusedVariables false
set_option linter.defProp false
open List renaming length -> z
open Option renaming some -> S, none -> N
open Bool renaming true -> T, false -> F
namespace Go
section
def a7{P:Prop}(h:P:=by omega):P:=h
def a8{P:Prop}(h:P:=by simp):P:=h
def b9{P:Prop}(h:P:=by decide):P:=h
def c9{P:Prop}(h:P:=by decide +kernel):P:=h
def j0{P:Prop}(h:P:=by kernel_rfl):P:=h
def j4{P:Prop}(h:P:=by rfl):P:=h
def j6{P:Prop}(h:P:=by assumption):P:=h
abbrev j7:=@List.length_map
abbrev j8:=@List.length_append
abbrev j9:=@if_neg
abbrev l4:=@List.length_cons
abbrev l5:=@List.length_nil
abbrev l6:=@List.getElem?_eq_some_iff
abbrev l7:=@List.mem_of_getElem?
abbrev l8:=@Nat.le_refl
abbrev l9:=@if_pos
abbrev s5:=@Bool.and_eq_true
abbrev s6:=@List.map_cons
abbrev s7:=@List.take_of_length_le
abbrev s9:=@List.append_nil
abbrev u7:=@List.getElem?_cons_succ
abbrev v7:=@List.append_assoc
abbrev v8:=@List.getElem?_eq_getElem
abbrev w7:=@Option.some.injEq
abbrev w8:=@List.getElem?_cons_zero
abbrev w9:=@List.getElem?_map
abbrev x6:=@eq_true
abbrev x7:=@List.map_nil
abbrev x8:=@Bool.true_and
abbrev x9:=@List.all_eq_true
abbrev y7:=@List.getElem?_toArray
abbrev y8:=@True.intro
abbrev y9:=@List.drop_of_length_le
abbrev z6:=@List.eq_nil_of_length_eq_zero
abbrev z7:=@Array.getD_eq_getD_getElem?
abbrev A0:=@List.mem_cons
abbrev A3:=@Option.map_some
abbrev A4:=@And.intro
abbrev A5:=@decide_eq_false
abbrev A6:=@Option.getD_some
abbrev A7:=@List.nil_append
abbrev A8:=@List.map_append
abbrev A9:=@Bool.false_and
abbrev B1:=@if_false
abbrev B3:=@List.not_mem_nil
abbrev B4:=@decide_eq_true_eq
abbrev B5:=@if_true
abbrev B6:=@Int.toNat_natCast
abbrev B7:=@Ne.symm
abbrev B8:=@Array.getElem?_eq_getElem
abbrev B9:=@Eq.trans
abbrev C0:=@List.getElem?_set
abbrev C1:=@List.mem_append
abbrev C2:=@Nat.add_assoc
abbrev C3:=@List.drop_eq_getElem_cons
abbrev C4:=@List.length_set
abbrev C5:=@Nat.zero_add
abbrev C6:=@List.cons_append
abbrev C7:=@Int.le_refl
abbrev C8:=@decide_eq_true
abbrev C9:=@Option.isSome_some
abbrev D0:=@Nat.le_trans
abbrev D1:=@List.getElem?_append_right
abbrev D2:=@List.take_add_one
abbrev D3:=@List.length_take
abbrev D4:=@List.mem_range
abbrev D5:=@Bool.and_false
abbrev D6:=@List.mem_map
abbrev D7:=@List.drop_zero
abbrev D8:=@List.sum_cons
abbrev D9:=@List.getElem?_of_mem
abbrev E0:=@Bool.false_eq_true
abbrev E3:=@List.mem_singleton
abbrev E4:=@Option.isSome_none
abbrev E5:=@Array.getElem?_eq_some_iff
abbrev E6:=@List.getD_eq_getElem?_getD
abbrev E7:=@List.flatten_cons
abbrev E8:=@List.getElem?_append_left
abbrev E9:=@List.all_cons
abbrev F0:=@Array.getElem?_replicate
abbrev F1:=@Nat.add_mul
abbrev F2:=@or_false
abbrev F3:=@List.getElem?_eq_none
abbrev F6:=@List.eq_of_mem_replicate
abbrev F7:=@Nat.le_of_eq
abbrev F8:=@Bool.and_assoc
abbrev F9:=@List.replicate_succ
abbrev G0:=@List.length_drop
abbrev G1:=@Array.getElem?_append_left
abbrev G3:=@List.drop_length
abbrev G4:=@List.length_replicate
abbrev G5:=@Option.map_eq_some_iff
abbrev G6:=@List.all_append
abbrev G7:=@List.foldl_cons
abbrev G8:=@List.flatMap_cons
abbrev G9:=@Nat.lt_of_le_of_lt
abbrev Hk:=@List.length_eq_zero_iff
abbrev Hl:=@List.take_succ_cons
abbrev H0:=@Option.some.inj
abbrev H2:=@List.set_cons_zero
abbrev H3:=@Array.getElem_mem_toList
abbrev H4:=@Nat.lt_of_lt_of_le
abbrev H5:=@List.getElem?_drop
abbrev H6:=@Array.getElem?_append_right
abbrev H7:=@List.take_append_drop
abbrev H8:=@Option.map_none
abbrev H9:=@Bool.or_eq_true
abbrev I1:=@List.take_length
abbrev I2:=@List.getElem?_replicate
abbrev I3:=@Prod.mk.injEq
abbrev I4:=@List.getElem?_take
abbrev I5:=@Int.toNat_of_nonneg
abbrev I6:=@List.takeWhile_cons
abbrev I7:=@beq_iff_eq
abbrev I8:=@Array.getElem?_toList
abbrev I9:=@List.singleton_append
abbrev J0:=@List.set_append_right
abbrev J1:=@Bool.not_eq_true'
abbrev J2:=@List.mem_cons_self
abbrev J3:=@List.getElem?_mapIdx
abbrev J4:=@List.getElem_mem
abbrev J5:=@List.forall_mem_append
abbrev J6:=@List.mem_or_eq_of_mem_set
abbrev J7:=@Array.ext'
abbrev J8:=@List.contains_iff_mem
abbrev J9:=@Nat.le_of_ble_eq_true
abbrev K7:=@Bool.not_false
abbrev K8:=@Bool.and_true
abbrev K9:=@List.mem_mapIdx
abbrev Ln:=@Option.toList_some
abbrev Ly:=@Option.bind_some
abbrev Lz:=@Nat.sub_self
abbrev LN:=@Nat.add_zero
abbrev LQ:=@Array.getElem?_eq_none
abbrev L0:=@List.ext_getElem?
abbrev L1:=@Nat.zero_le
abbrev L2:=@Nat.mod_eq_of_lt
abbrev L3:=@List.getElem?_append
abbrev L4:=@Nat.mul_le_mul_right
abbrev L5:=@List.nodup_cons
abbrev L6:=@List.replicate_zero
abbrev L7:=@decide_false
abbrev L8:=@Nat.mul_one
abbrev L9:=@Nat.le_add_right
abbrev M0:=@List.mapIdx_cons
abbrev M1:=@List.take_zero
abbrev M3:=@UInt8.toNat_ofNat'
abbrev M4:=@List.sum_append
abbrev M5:=@Nat.div_le_self
abbrev M6:=@and_true
abbrev M7:=@List.mem_of_mem_drop
abbrev M8:=@List.mem_append_left
abbrev M9:=@Option.isSome_iff_exists
abbrev N0:=@Array.getElem?_setIfInBounds_ne
abbrev N1:=@List.length_pos_iff
abbrev N2:=@List.filter_eq_nil_iff
abbrev N3:=@Nat.mod_lt
abbrev N4:=@List.map_set
abbrev N5:=@Nat.pow_succ
abbrev N6:=@Nat.div_div_eq_div_mul
abbrev N7:=@Array.getElem?_setIfInBounds
abbrev N8:=@List.dropLast_concat_getLast
abbrev N9:=@not_false_eq_true
abbrev OX:=@of_decide_eq_true
abbrev OY:=@List.foldl_append
abbrev OZ:=@List.reverse_cons
abbrev O0:=@Array.getElem?_setIfInBounds_self_of_lt
abbrev O2:=@List.getElem?_set_ne
abbrev O6:=@List.mem_cons_of_mem
abbrev O7:=@List.mem_of_mem_take
abbrev O8:=@List.foldl_nil
abbrev O9:=@List.isPrefixOf_iff_prefix
abbrev Pa:=@Option.isNone_iff_eq_none
abbrev Pd:=@List.getLast?_eq_getElem?
abbrev Pe:=@List.getElem?_eq_none_iff
abbrev Pg:=@Array.length_toList
abbrev P0:=@List.flatMap_append
abbrev P1:=@Bool.not_true
abbrev P2:=@Bool.eq_iff_iff
abbrev P3:=@Int.natCast_mul
abbrev P4:=@List.set_cons_succ
abbrev P5:=@Array.all_eq_true'
abbrev P6:=@List.map_replicate
abbrev P7:=@Nat.add_sub_cancel_left
abbrev P8:=@List.mapM_cons
abbrev P9:=@Nat.le_of_lt
abbrev Qf:=@List.map_map
abbrev Qg:=@List.flatten_replicate_singleton
abbrev Qi:=@List.takeWhile_sublist
abbrev Qm:=@Bool.not_eq_false
abbrev Q0:=@List.length_singleton
abbrev Q1:=@List.any_eq_true
abbrev Q2:=@not_or
abbrev Q3:=@Array.eq_empty_of_size_eq_zero
abbrev Q4:=@Array.mem_toList_iff
abbrev Q5:=@List.range_eq_range'
abbrev Q6:=@Nat.one_mul
abbrev Q7:=@List.cons.injEq
abbrev Q8:=@Nat.le_antisymm
abbrev Q9:=@UInt8.toNat_inj
abbrev R4:=@List.range_succ
abbrev R5:=@List.getD_cons_succ
abbrev R6:=@Array.getElem?_push
abbrev R7:=@List.getElem?_range
abbrev R8:=@List.map_congr_left
abbrev R9:=@List.reverse_append
abbrev SY:=@List.sum_nil
abbrev S7:=@Nat.pow_zero
abbrev S8:=@List.count_pos_iff
abbrev S9:=@List.drop_drop
abbrev Td:=@BitVec.toNat_ofInt
abbrev Te:=@Int.fdiv_eq_ediv_of_nonneg
abbrev Tf:=@Classical.byContradiction
abbrev Tg:=@List.mem_of_find?_eq_some
abbrev Tn:=@not_true_eq_false
abbrev Tz:=@decide_true
abbrev TC:=@Array.getElem_mem
abbrev TR:=@List.mapM_toArray
abbrev T0:=@List.map_id
abbrev T6:=@Bool.false_or
abbrev T7:=@Array.size_setIfInBounds
abbrev T8:=@true_and
abbrev T9:=@Option.getD_none
abbrev U0:=@List.countP_cons
abbrev U1:=@Nat.le_mul_of_pos_right
abbrev U2:=@List.getElem?_set_self
abbrev U3:=@Nat.lt_or_ge
abbrev U4:=@Nat.add_comm
abbrev U5:=@Nat.mul_comm
abbrev U6:=@List.head?_eq_getElem?
abbrev U7:=@List.mem_filter
abbrev U8:=@Option.any_some
abbrev U9:=@Nat.min_eq_left
abbrev Vf:=@Array.getElem?_modify
abbrev Vg:=@Array.mem_of_getElem?
abbrev Vh:=@List.countP_replicate
abbrev Vi:=@List.nodup_nil
abbrev Vj:=@Nat.div_one
abbrev Vk:=@true_or
abbrev Vl:=@or_true
abbrev Vm:=@cond_false
abbrev Vn:=@List.all_nil
abbrev Vo:=@cond_true
def dM{P:Prop}(h:P:=by
 simp only[go_sem];refine⟨_,ai.refl _,?_⟩;simp only[go_sem];exact bB.nil (λi hi=>⟨nt ((fr i hi).1),nt ((fr i hi).2)⟩) (o:=[bv F]) ⟨_,_,rfl,.one (.d _),rfl⟩ ⟨rfl,rfl,rfl⟩):P:=h
def dT{P:Prop}(h:P:=by
 cases yt
 .simp only[A9,D5]at b
  subst b;exact dM
 simp only[go_sem,q0,q4,o4];refine cK aa rfl a6 (by simp only[go_sem];rfl) (B+65) a7 (λi hi=>nt (ar i a7)) ((E.mono hB fr).mono hB λi hi=>⟨nu,nu⟩) ?_;cases ye
 .simp only[A9,D5]at b
  subst b;exact dM
 simp only[x8]at b;simp only[go_sem,q,hw];refine ao (m-1) a7 ⟨k+1,a7,b,?_⟩;simp only[go_sem,q0,q4,q9,A,o4];exact⟨λj hj=>⟨nt ((fr j hj).1),nt ((fr j hj).2)⟩,λj hj=>nt (ar j hj)⟩):P:=h
def gD{P:Prop}(h:P:=by
 rintro r g' Y ⟨f1,f2⟩;simp only[go_sem];exact bI (.inr rfl) (fin (λi hi=>by (try simp only[upd]);repeat (rw[j9 (by omega)]);try rfl) (λi hi=>by (try simp only[upd]);repeat (rw[j9 (by omega)]);try rfl) f1 f2)):P:=h
def gG{P:Prop}(h:P:=by
 refine cK aa rfl (u 1) (by simp only[go_sem];rfl) (B+65) a7 (λi hi=>nt (ar i a7)) ((E.mono hB fr).mono hB λi hi=>⟨nu,nu⟩) ?_;cases a:cI fs 1 es
 .rw[a]at b
  simp only[A9,D5]at b;subst b;exact dM
 rw[a]at b;simp only[x8]at b;simp only[go_sem,q0,q4,o4];refine cK aa rfl G (by simp only[go_sem];rfl) (B+65) a7 (λi hi=>nt (ar i a7)) ((E.mono hB fr).mono hB λi hi=>⟨nu,nu⟩) ?_;exact dT):P:=h
def gH{P:Prop}(h:P:=by
 refine this.mono λe G hE=>?_;rcases hE with⟨v,r,g',Y,A,he,hR,hv,U,h2,h3⟩|⟨ch,g',Y,A,he,b,U,h2,h3⟩
 .subst he
  obtain⟨k1,k2⟩:=jo V c hv U h2 h3;exact⟨k1.defers,hn _ A _ G ⟨r,g',Y,hR,rfl⟩ k1 (a6 _ _ _ _ _ _ _ X k2)⟩
 .subst he
  have hk:fE O β s.gen s.obj w A g' Y G:=h3.keep;have ht:Tr O β s w A ⟨s.f,g',Y⟩ G:=⟨h3.size,h3.old,hk,h3.os⟩
  exact g ch ⟨s.f,g',Y⟩ A a G (I _ _ _ b) ⟨V.defers,V.size,λi=>ak.keep hk _ (V.f i),U,h2,D0 V.base h3.size⟩ (a6 _ _ _ _ _ _ _ X ht)):P:=h
def gI{P:Prop}(h:P:=by
 rintro n f g' Y ⟨k,hk,q0,q4,q3,q⟩;simp only at q0 q4 q3 q;have hw:=ah (k:=k) a7;by_cases af:k<32
 .have H:(k:Int)<32:=a7
  have b':a/2^k<4294967296:=G9 (M5 _ _) ha;have m:a/2^(k+1)=a/2^k/2:=by rw[N5,N6]
  have an:=yh (a:=a) af;generalize a/2^k=v at q0 b' m an;have hm:(v:Int).tmod 2=((v%2:Nat):Int):=rfl;have hd:(v:Int).tdiv 2=((v/2:Nat):Int):=rfl;have e:IntKind.i64.wrap ((v%2:Nat):Int)=((v%2:Nat):Int):=by rw[wrap_i64]<;>omega
  have b:IntKind.u32.wrap ((v%2:Nat):Int)=((v%2:Nat):Int):=er a7;have b6:IntKind.u32.wrap ((v/2:Nat):Int)=((v/2:Nat):Int):=er a7;rcases q3 with⟨bf,q3⟩|⟨bf,q3,o⟩
  .simp only[go_sem,q0,q3,q4,H,hm,hd,e,b,b6,hw]
   refine⟨⟨b9,b9⟩,?_⟩;refine cQ (P:=Tryz.prog) (n-1) a7 ⟨k+1,a7,?_⟩;simp only[go_sem,m];subst bf;refine⟨.inr ⟨a7,rfl,?_⟩,λi hi=>?_⟩
   .rw[an];rfl
   ·(repeat rw[j9 (by omega)]);exact q i hi
  .simp only[go_sem,q0,q3,q4,o,H,hm,hd,e,b,b6,hw]
   refine⟨by simp[kE,dQ];omega,⟨b9,a7⟩,?_⟩;refine cQ (P:=Tryz.prog) (n-1) a7 ⟨k+1,a7,?_⟩;simp only[go_sem,m];refine⟨.inr ⟨a7,?_⟩,λi hi=>?_⟩
   .rw[an,s7 (by simp[kE,dQ];omega)];simp[kE]
   ·(repeat rw[j9 (by omega)]);exact q i hi
 .have H:¬(k:Int)<32:=a7
  obtain rfl:k=32:=a7;rcases q3 with⟨bf,q3⟩|⟨bf,q3,o⟩
  .omega
  rw[s7 (by rw[dQ];decide)]at o;simp only[go_sem,q0,q3,q4,show ¬((32:Nat):Int)<32 by decide];exact bI (.inl rfl) ⟨by simp[nP,upd],o,q⟩):P:=h
def gJ{P:Prop}(h:P:=by
 intro r g2 bo S2 K2;simp only[go_sem];refine⟨_,ai.refl _,?_⟩;simp only[go_sem];exact ar.pack S2 (v.trans (cY.down (K1.trans K2) a7)) (by simp only[ax,aD,aE,Emit.dJ,Emit.du,j8,l4,l5,v7,s9,A7]) (by simp only[ax,aD,aE,Emit.dJ,Emit.du,j8,l4,l5,v7,s9,A7]) (o:=[]) rfl):P:=h
def gO{P:Prop}(h:P:=by (try simp only[upd]);(repeat rw[j9 (by omega)])):P:=h
def gT{P:Prop}(h:P:=by
 refine⟨_,ai.refl _,?_⟩;simp only[go_sem];exact bB.nil (λi hi=>⟨nu,nu⟩) (o:=[ae 0]) ⟨_,_,rfl,.one (.d _),rfl⟩ ⟨rfl,rfl,rfl⟩):P:=h
def gW{P:Prop}(h:P:=by simp only[go_sem]):P:=h
def hx{P:Prop}(h:P:=by
 have m:∀l:List Operand,(l.map s.ev).all fk=T->RVs (Imm O β s.obj w) w (l.map s.ev) (l.map a.eval):=by
  intro l
  induction l with
  |nil=>intro _;simp only[x7,RVs]
  |cons x l ih=>
    intro h;simp only[s6,E9,s5]at h;simp only[s6,RVs];exact⟨_,_,rfl,ak.data h.1 (V.ev x),ih h.2⟩
 have:=hp.2 (Imm O β s.obj w) w (args.toList.map a.eval) (hG _ _ _ _ X).2 (λ_ h=>h.1) (m _ hd);rw[show (args.toList.map a.eval).toArray=args.map a.eval from J7 a8]at this;refine this.mono λe G⟨v,r,he,hR,hs,hh,n,hv⟩=>?_;subst he;obtain⟨g1,g2⟩:=V.grow hs hh n;have g3:=g2.trans (Tr.same (St.put_gen s op.dst r) (St.put_obj s op.dst r) rfl);have U:=g1.put c (RV.rep r (RV.mono (λb hb=>⟨uM V (J:=λb=>Imm O β s.obj w b\/b<=q) (λb h=>h.elim id (vt V (hG _ _ _ _ X))) hb,rfl⟩) r hv));exact⟨U.defers,hn _ β _ G ⟨r,hR,rfl⟩ U (a6 _ _ _ _ _ _ _ X g3)⟩):P:=h
def hH{P:Prop}(h:P:=by
 have:(vs.toArray++Array.replicate (fn.ntmps-vs.toArray.size) undef).getD i undef=undef:=by
  rw[z7,H6 (by simp;omega)];simp[F0];split<;>rfl
 rw[this];exact cZ):P:=h
def hK{P:Prop}(h:P:=by
 rw[az,cj]at a;have t:=EL (fs:=fs) (gr:=gr) (gm:=gm) (szE L) L (l8 _) a7;obtain⟨y,hy⟩:∃y,fb fs L=y:=⟨_,rfl⟩
 rw[hy]at a t;obtain⟨s,v,p,c,h⟩:=L;have bl:exD (.mk s v p c h)=[.int .i64 s,.int .i64 v,.int .u32 p,.str c,.sl (h.map exD)]:=by simp only[exD,aV]
 simp only[go_sem,q0,Y,P,U,u,bk,cc,bl];refine cK aa rfl t (by simp only[go_sem,exV,bl,s6,x7]) (B+57) a7 (λi hi=>nt (ar i a7)) ((E.mono hB fr).mono hB λi hi=>⟨nu,nu⟩) ?_;cases y
 .simp only[A9]at a
  subst a;exact dM
 .simp only[x8]at a
  simp only[go_sem,U,w];refine ao (m2-1) a7 ⟨n+1,a7,a,?_⟩;simp only[go_sem,q0,q6,q9,A,q,Y,P,W];exact⟨λj hj=>⟨nt ((fr j hj).1),nt ((fr j hj).2)⟩,λj hj=>nt (ar j hj)⟩):P:=h
def hM{P:Prop}(h:P:=by
 simp only[y7,w8,u7,w7]at ho;subst ho;refine .inr ⟨⟨24,rfl,A (c ⟨2,.guard⟩ a8 rfl)⟩,?_⟩;simp only[go_sem,b]
 (repeat' first|assumption|apply A4)):P:=h
def hO{P:Prop}(h:P:=by
 simp only[Oper.upon]
 have m:∀l:List Operand,(l.map s.ev).all fk=T->RVs (Imm O β s.obj w) w (l.map s.ev) (l.map a.eval):=by
  intro l
  induction l with
  |nil=>intro _;simp only[x7,RVs]
  |cons x l ih=>
    intro h;simp only[s6,E9,s5]at h;simp only[s6,RVs];exact⟨_,_,rfl,ak.data h.1 (V.ev x),ih h.2⟩
 have:=hp.2 (Imm O β s.obj w) w (args.toList.map a.eval) (λ_ h=>h.1) (m _ hd);rw[show (args.toList.map a.eval).toArray=args.map a.eval from J7 a8]at this;refine this.mono λe G⟨v,r,he,hR,hs,hh,n,hv⟩=>?_;subst he;obtain⟨g1,g2⟩:=V.grow hs hh n;refine hn _ β _ G ⟨r,hR,rfl⟩ (g1.put c (RV.rep r (RV.mono (λb hb=>⟨uM V (λ_ h=>h) hb,rfl⟩) r hv))) (g2.trans (Tr.same (St.put_gen _ _ _) (St.put_obj _ _ _) rfl))):P:=h
def hV{P:Prop}(h:P:=by
 have:∀(es:List (List D))(_:∀e∈es,z e=sz)i,es[i]?=S e->es.flatten[i*sz+j]?=S x:=by
  intro es
  induction es with
  |nil=>intro _ i h;simp at h
  |cons e' es p=>
    intro hs i h;have hl:=hs e' a8;cases i with
    |zero=>
      simp at h;subst h;rw[E7,E8 (by simpa using(l6.1 I).1)];simpa using I
    |succ i=>
      rw[E7,D1 (by rw[hl,F1];omega),hl,show (i+1)*sz+j-sz=i*sz+j by rw[F1];omega];exact p (λe h=>hs e (by simp[h])) i (by simpa using h)
 exact this es az i he):P:=h
def hY{P:Prop}(h:P:=by
 rw[an,cj]at b;have n:=ih (szE e) a7 e (l8 _) a7;obtain⟨y,hy⟩:∃y,fb fs e=y:=⟨_,rfl⟩
 rw[hy]at b n;obtain⟨s,v,p,c,h⟩:=e;have hE:exD (.mk s v p c h)=[.int .i64 s,.int .i64 v,.int .u32 p,.str c,.sl (h.map exD)]:=by simp only[exD,aV]
 simp only[go_sem,q0,q9,A,q,Q,bf,he,hE];refine cK aa rfl n (by simp only[go_sem,exV,hE,s6,x7]) (B+36) a7 (λi hi=>nt (ar i a7)) ((E.mono hB fr).mono hB λi hi=>⟨nu,nu⟩) ?_;cases y
 .rw[A9]at b
  subst b;exact dM
 .rw[x8]at b
  simp only[go_sem,q,hw];refine ao (m-1) a7 ⟨k+1,a7,b,?_⟩;simp only[go_sem,q0,q9,A];exact⟨λj hj=>⟨nt ((fr j hj).1),nt ((fr j hj).2)⟩,λj hj=>nt (ar j hj)⟩):P:=h
def hZ{P:Prop}(h:P:=by
 obtain rfl:X=F:=by
  have:¬el=[]:=λe=>by rw[e]at a6;exact absurd a6 b9
  rw[<-hz];simp[cN,this]
 simp only[go_sem,j,j7,a6]):P:=h
def h1{P:Prop}(h:P:=by exact⟨λj hj=>⟨nt ((fr j hj).1),λh5 h6=>nt ((fr j hj).2 h5 h6)⟩,λj hj=>nt (ar j hj)⟩):P:=h
def ia{P:Prop}(h:P:=by
 subst b;simp only[go_sem,A,q,Q];refine⟨_,ai.refl _,?_⟩;simp only[go_sem];exact bB.nil fr (o:=[bv T]) ⟨_,_,rfl,.one (.d _),rfl⟩ ⟨rfl,rfl,rfl⟩):P:=h
def ib{P:Prop}(h:P:=by
 intro g2 bo p2 q2 r2;simp only[go_sem];refine bY (λi=>decide (K<=i)) ?_;exact⟨rfl,bl _ rfl _ _ p2⟩):P:=h
def ic{P:Prop}(h:P:=by
 intro r g4 bf J K4;simp only[go_sem];refine⟨_,ai.refl _,?_⟩;simp only[go_sem];exact ar.pack J (v.trans (cY.down (K1.trans (K2.trans (L.trans K4))) a7)) (by simp only[ax,aD,aE,Emit.dJ,Emit.du,j8,l4,l5,v7,s9,A7]) (by simp only[ax,aD,aE,Emit.dJ,Emit.du,j8,l4,l5,v7,s9,A7]) (o:=[]) rfl):P:=h
def im{P:Prop}(h:P:=by
 rw[hf]at I;simp only[A3,thD]at I;simp only[go_sem,n1,n2,n3,kT,p,hm,E4,C9,I,a];refine⟨_,ai.refl _,?_⟩;simp only[go_sem];refine bB.two (f:=M) (m:=[bE F]) (λi hi ha hb=>⟨by (try simp only[upd]);(repeat rw[j9 (by omega)]),by (try simp only[upd]);(repeat rw[j9 (by omega)])⟩) (by (try simp only[upd]);(repeat rw[j9 (by omega)])) (by (try simp only[upd]);(repeat rw[j9 (by omega)])) (by simp only[upd];(repeat rw[j9 (by omega)]);exact hm) (by simp[upd]) hd.low Gr (o:=[]) rfl ⟨rfl,M,mo.old hf,hd,by rw[hf];simp⟩):P:=h
def iB{P:Prop}(h:P:=by exact λ_ _ _ h=>h.elim):P:=h
def iE{P:Prop}(h:P:=by
 have e1:=congrFun u;simp only[upd]at e1;rw[e1]at hj|-;by_cases n:e.on=i
 .rw[l9 n]
 .rw[j9 n]
  by_cases bd:j=i
  .subst bd
   rw[ho]at H;cases H;exact f e he hb
  .rw[j9 bd]at hj
   exact hid j g hj H e he hb):P:=h
def iS{P:Prop}(h:P:=by
 obtain rfl:X=F:=by
  have:¬th=[]:=λe=>by rw[e]at G;exact absurd G b9
  rw[<-hz];simp[cN,this]
 simp only[go_sem,j,j7,a6,G]):P:=h
def iW{P:Prop}(h:P:=by
 cases yt
 .simp only[A9]at a
  subst a;exact dM
 simp only[go_sem,q0,q6,W];refine cK aa rfl a6 (by simp only[go_sem];rfl) (B+57) a7 (λi hi=>nt (ar i a7)) ((E.mono hB fr).mono hB λi hi=>⟨nu,nu⟩) ?_;cases ye
 .simp only[A9,D5]at a
  subst a;exact dM
 simp only[x8]at a;simp only[go_sem,q,hw];refine ao (m-1) a7 ⟨k+1,a7,a,?_⟩;simp only[go_sem,q0,q9,A];exact⟨λj hj=>⟨nt ((fr j hj).1),nt ((fr j hj).2)⟩,λj hj=>nt (ar j hj)⟩):P:=h
def j1{P:Prop}(h:P:=by
 simp only at q0 q6 q9 A q Y P U W fr ar;have w:=ah (k:=n) a7;by_cases bs:n<z es
 .have u:(n:Int)<(z es:Int):=a7
  have bk:(0:Int)<=(n:Int):=a7;obtain⟨L,cc⟩:=getq bs;have b0:=Src.Oz (l7 cc);have az:es.drop n=L::es.drop (n+1):=by rw[C3 bs,(l6.1 cc).2]
  exact hK
 have u:¬(n:Int)<(z es:Int):=a7;obtain rfl:n=z es:=a7;rw[G3,cj,x8]at a;simp only[go_sem,q0,q6,P,U,u,W];refine cK aa rfl G (by simp only[go_sem];rfl) (B+57) a7 (λi hi=>nt (ar i a7)) ((E.mono hB fr).mono hB λi hi=>⟨nu,nu⟩) ?_;exact iW):P:=h
def j3{P:Prop}(h:P:=by
 refine aG (λm K=>∃n:Nat,m+n=z es/\(cj fs (es.drop n)&&(yt&&ye)&&bK fs (l.drop (k+1)))=X/\K.f 0=aj 1012 gr 0/\K.f 6=aj (B+6) (K.gen (B+6)) 0/\K.f 11=.one (aq (l.map smD))/\K.f 12=ae (z l)/\K.f 13=ae k/\K.f 33=.one (aq (es.map exD))/\K.f 34=ae (z es)/\K.f 35=ae n/\
   K.obj (B+6)=S [ag kind,bF name,aq (es.map exD),aq (th.map smD),aq (el.map smD)]/\(∀j,j<B->K.gen j=g j/\K.obj j=ob j)/\(∀j,B+57<=j->K.obj j=N)) (z es) ?_ ?_
 .refine⟨0,rfl,by rw[D7];exact b,?_⟩
  simp only[go_sem,q0,q9,A,q,n1,n2];exact⟨λj hj=>⟨nt ((fr j hj).1),nt ((fr j hj).2)⟩,λj hj=>nt (ar j hj)⟩
 clear q0 q9 A q fr ar or om mM I r H;rintro m2 f g1 av ⟨n,hn,a,q0,q6,q9,A,q,Y,P,U,W,fr,ar⟩;exact j1):P:=h
def kb{P:Prop}(h:P:=by
 obtain⟨v,U,h2⟩:=hv.get I;have af:i<z vs:=(l6.1 U).1
 have:(vs.toArray++Array.replicate (fn.ntmps-vs.toArray.size) undef).getD i undef=v:=by
  rw[z7,G1 (by simpa using af)];simp[U]
 rw[this];simpa only[A6]using h2):P:=h
def km{P:Prop}(h:P:=by
 simp only[go_sem,hg,t];refine cJ rfl (by simp only[go_sem];exact u _ _ (U.same (λi hi=>by (try simp only[upd]);repeat (rw[j9 (by omega)]);try rfl) (λi hi=>by (try simp only[upd]);repeat (rw[j9 (by omega)]);try rfl)) x) ?_;exact gD):P:=h
def kn{P:Prop}(h:P:=by
 rintro _ g' Y ⟨rfl,rfl⟩;simp only[go_sem,A,hw];refine ao (m-1) a7 ⟨k+1,a7,?_⟩;simp only[go_sem,q1,q3,q5,q6,B,y,e1.1,d.1,e5.1,q.1,e1.2,d.2];refine⟨?_,?_,⟨M,rfl,mM⟩,λj hj=>?_⟩
 .rw[mb _ he,<-F8,h5,fA,L]
  first|rfl|(simp;done)|(rw[x8];rfl)
 .rw[mb _ he,h6]
  rfl
 ·(try simp only[upd]);(repeat rw[j9 (by omega)])
  rw[(fr j (.inr a7)).2]
  (try simp only[upd]);(repeat rw[j9 (by omega)])
  exact ar j a7):P:=h
def kp{P:Prop}(h:P:=by
 refine⟨a7,?_⟩;simp only[go_sem,eh,cc];refine ao (m-1) a7 ⟨j+1,a7,?_⟩;simp only[go_sem,p0,p6,dx,dz,cc,n1,n3,m1,w,c1];refine⟨by rw[bl _ fl],f'.to (λi hi=>?_) (λi hi=>⟨?_,?_⟩),λi hi U h2 h3 h4 h5=>⟨?_,?_⟩⟩
 .exact nt (F5.ar.top i hi)
 .have:i≠B+8:=a7
  exact gO
 .have:i≠B+8:=a7
  have:i≠B+37:=a7;exact gO
 .exact nt ((O5 i hi U h2 h3 h4 h5).1)
 .exact nt ((O5 i hi U h2 h3 h4 h5).2)):P:=h
def kt{P:Prop}(h:P:=by
 refine⟨bq b,F7 (bq b).symm,?_⟩;refine nH (c:=c) (e1:=e1) (bs:=L) aa rfl hE h K1 hz.2 t1 (by simp only[go_sem,dC];rfl) loM (by omega:B<=B+232) (λi hi=>by simp only[upd];(repeat first|rw[j9 (by omega)]|rw[h.hi (by omega)]);exact h.free i (by omega)) λd a6 e2 I A2 K2=>?_;simp only[go_sem];refine⟨_,ai.refl _,?_⟩;simp only[go_sem];exact dY (w:=I) (e':=e2) (ad:=a6) (bd:=L) (r:=N) h loM eY ⟨d,a6,e2,I,t2 _ _ _ A2,K2,rfl,rfl,rfl⟩):P:=h
def k0{P:Prop}(h:P:=by
 intro g2 bo p2 q2 r2;simp only[go_sem];refine bY (λi=>decide (K<=i)) ?_;exact⟨rfl,bl _ _ _ p2⟩):P:=h
def k6{P:Prop}(h:P:=by
 obtain⟨fn,U,h2,h3⟩:=hp.1;have h2:¬fn.body=N:=by intro h;rw[h]at h2;simp at h2
 have h3:¬fn.name = "runtime.NumGoroutine":=by simpa using h3
 simp[execOp,ho,resolve,Act.eval,cx,Deferred.ofValue,invoke,callFunc,U,h2,h3]):P:=h
def k7{P:Prop}(h:P:=by
 obtain⟨fn,U,h2,h3⟩:=hp.1;have h2:¬fn.body=N:=by intro h;rw[h]at h2;simp at h2
 have h3:¬fn.name = "runtime.NumGoroutine":=by simpa using h3
 simp[execOp,ho,resolve,Act.eval,hv,Deferred.ofValue,invoke,callFunc,U,h2,h3]):P:=h
def k9{P:Prop}(h:P:=by
 have bs:∀i,i<ops.size->b.getD i T=T:=λi hi=>by
  have K:F∉b.toList:=λh=>by
   have:=S8.2 h;omega
  rw[z7,B8 a7];simp only[A6];cases hq:b[i]'a7 with
  |true=>rfl
  |false=>exact absurd (hq▸Q4.2 (TC a7)) K
 have b7:Region.ready .any ops b=[]:=by
  unfold Region.ready;rw[N2];intro i hi;simp[bs i (D4.1 hi)]
 exact⟨b7,hQ _ s β a w hI V X ⟨b,rfl,az,b7⟩⟩):P:=h
def la{P:Prop}(h:P:=by
 refine cK aa rfl (u 2) (by simp only[go_sem];rfl) (B+65) a7 (λi hi=>nt (ar i a7)) ((E.mono hB fr).mono hB λi hi=>⟨nu,nu⟩) ?_;cases a:cI fs 2 es
 .rw[a]at b
  simp only[A9,D5]at b;subst b;exact dM
 rw[a]at b;simp only[x8]at b;simp only[go_sem,q0,q4,o4];refine cK aa rfl G (by simp only[go_sem];rfl) (B+65) a7 (λi hi=>nt (ar i a7)) ((E.mono hB fr).mono hB λi hi=>⟨nu,nu⟩) ?_;exact dT):P:=h
def ld{P:Prop}(h:P:=by
 obtain rfl:X=F:=by rw[<-hz];simp[bS,u]
 simp only[go_sem,j,u]):P:=h
def ln{P:Prop}(h:P:=by
 simp only[go_sem,j,u,a,c];by_cases t:(z kids:Int)=2
 case neg=>
  obtain rfl:X=F:=by
   have:¬z kids=2:=a7;rw[<-hz];simp[bS,this]
  simp only[go_sem,j7,t]
 simp only[go_sem,j7,t,b3];refine cg rfl (by simp only[go_sem,b3];exact J) ?_;rintro _ rfl
 obtain rfl:X=bA (q+1) kids:=by
  have:z kids=2:=a7;rw[<-hz];simp[bS,ay,a1,this,c,a,u]
 exact gW):P:=h
def lo{P:Prop}(h:P:=by
 have hw:=ah (k:=k) a7;by_cases af:k<z kids
 case neg=>
  have Q:¬(k:Int)<(z kids:Int):=a7;obtain rfl:k=z kids:=a7;rw[G3,cj]at b;exact ia
 have Q:(k:Int)<(z kids:Int):=a7;have bf:(0:Int)<=(k:Int):=a7;obtain⟨e,he⟩:=getq af;have a:=Src.Oz (l7 he);have an:kids.drop k=e::kids.drop (k+1):=by rw[C3 af,(l6.1 he).2]
 exact hY):P:=h
def lv{P:Prop}(h:P:=by
 simp only[go_sem];exact J):P:=h
def l3{P:Prop}(h:P:=by
 refine cK aa rfl h (by simp only[go_sem];rfl) (B+20) a7 (λi hi=>nt (hf i a7)) (E.mono hB λi hi=>⟨nu,nu⟩) ?_;simp only[go_sem];cases cI fs 1 kids
 .simp only[go_sem]
  exact gT
 .simp only[go_sem]
  refine⟨_,ai.refl _,?_⟩;simp only[go_sem];exact bB.nil (λi hi=>⟨nu,nu⟩) (o:=[ae 1]) ⟨_,_,rfl,.one (.d _),rfl⟩ ⟨rfl,rfl,rfl⟩):P:=h
def mc{P:Prop}(h:P:=by
 have e:g1 (B+3)=l:=(K1.gen (B+3) a7 a7 a7).trans (by simp only[upd];rw[l9 trivial]);simp only[go_sem,c,e];refine bj aa rfl (nB hP 1 0 b9) (B+10) G D H u _ _ (by first|rfl|simp only[go_sem,c,e,bU]) bz Q (by first|exact hl|((try simp only[ax,aD,aE,Emit.dJ,Emit.du,j8,l4,l5]);omega)) (by first|exact hh|((try simp only[ax,aD,aE,Emit.dJ,Emit.du,j8,l4,l5,s9]);omega)) ?_;exact gJ):P:=h
def mS{P:Prop}(h:P:=by
 obtain rfl:X=F:=by rw[<-hz];simp[bS,a]
 simp only[go_sem,j,u,a]):P:=h
def nf{P:Prop}(h:P:=by
 obtain⟨v,U,h2⟩:=al _ _ hv i x I;have af:i<z vs:=(l6.1 U).1
 have:(vs.toArray++Array.replicate (fn.ntmps-vs.toArray.size) undef).getD i undef=v:=by
  rw[z7,G1 (by simpa using af)];simp[U]
 rw[this];simp only[A6];exact RV.rep x (RV.mono (λb hb=>⟨⟨hJ b hb,λ_=>hb,λid a ho=>by cases ho⟩,rfl⟩) x h2)):P:=h
def nn{P:Prop}(h:P:=by
 simp only[y7,w8,u7,w7]at u;subst u;simp only[go_sem,k3,k8,V,Z];exact r9):P:=h
def ns{P:Prop}(h:P:=by
 refine⟨_,ai.refl _,?_⟩;simp only[go_sem];exact bB.nil (λi hi=>⟨nt ((fr i hi).1),nt ((fr i hi).2)⟩) (o:=[bv F]) ⟨_,_,rfl,.one (.d _),rfl⟩ ⟨rfl,rfl,rfl⟩):P:=h
def n9{P:Prop}(h:P:=by
 simp only[y7,w8,u7,w7]at u;subst u;simp only[go_sem,k3,V,Z];exact r9):P:=h
def oc{P:Prop}(h:P:=by
 obtain⟨U,h2,h3⟩:=h;refine⟨U,D0 h2 (hk.gen id),λhg ho=>?_⟩;have e:g' id=g id:=Q8 a7 (hk.gen id);obtain⟨l1,l2,_⟩:=hk.live id e ho;rw[l2];exact h3 a7 l1):P:=h
def oj{P:Prop}(h:P:=by
 have bd:(j:Int)<(z out:Int):=a7;have cv:(0:Int)<=(j:Int):=a7;obtain⟨v,hv⟩:=getq G;have dc:=al v (l7 hv);simp only[go_sem,I,K,L,Y,bd,cv,hv,cc,j7];rw[C3 G,Emit.rK,show out[j]=v from(l6.1 hv).2]at O;refine ee (m-1) a7 ⟨j+1,max V v,a7,O,a7,a7,?_⟩;simp only[go_sem,f1,f2,f3,p,q,f4,I,K,o1,o2,B,u,x,r]):P:=h
def oo{P:Prop}(h:P:=by
 refine cg rfl (by simp only[go_sem];exact hD) ?_;rintro _ rfl;simp only[go_sem,q1,q4,e,q5,h,q6,bf,H];refine⟨by simp only[j8,l4,cu];omega,by simp only[j8,l4,W];omega,?_⟩;simp only[go_sem,q6,hw];refine cQ m a7 ⟨k+1,a7,?_⟩;simp only[go_sem,q1,i,j,q4,q5];exact⟨by rw[c',b3],by rw[a1,t]⟩):P:=h
def ov{P:Prop}(h:P:=by
 refine⟨_,ai.refl _,?_⟩;simp only[go_sem,n1,n2];exact bB.nil (λi hi=>⟨by (try simp only[upd]);(repeat rw[j9 (by omega)]);first|done|rfl|exact(c i hi).1,by (try simp only[upd]);(repeat rw[j9 (by omega)]);first|done|rfl|exact(c i hi).2⟩) (o:=[td (S t)]) ⟨_,_,rfl,Gq (thD t),rfl⟩ ⟨rfl,rfl,rfl⟩):P:=h
def oy{P:Prop}(h:P:=by
 simp only[go_sem,hg,t];exact⟨a7,bI (.inl rfl) (FrW.from (U.done (m':={m with steps:=m.steps+1,fin:=8}) t (λi hi=>by (try simp only[upd]);repeat (rw[j9 (by omega)]);try rfl) (λi hi=>by (try simp only[upd]);repeat (rw[j9 (by omega)]);try rfl) (by simp[upd]<;>rfl) rfl rfl λ_ _ _ V=>V.setFin 8) ar)⟩):P:=h
def oC{P:Prop}(h:P:=by exact⟨X,Y,U,λG bk=>by simp[execOp,h2 G bk],h3⟩):P:=h
def oL{P:Prop}(h:P:=by
 by_cases h2:x.op=3\/x.op=9\/x.op=13
 .omega
 by_cases h3:x.op=4\/x.op=7
 .omega
 by_cases h4:x.op=5
 .omega
 by_cases h5:x.op=6
 .omega
 by_cases h6:x.op=8
 .omega
 by_cases h7:x.op=10
 .omega
 by_cases h8:x.op=11
 .omega
 rw[j9 U,j9 h2,j9 h3,j9 h4,j9 h5,j9 h6,j9 h7,j9 h8]at h;cases h):P:=h
def oR{P:Prop}(h:P:=by
 rw[X i]at a6;refine⟨a6,rfl,λa' b' cu cz cm U=>?_⟩;by_cases hb:a'.block=ad.block
 .rw[hb]at U|-
  rw[f1]at U;cases U;exact⟨arr,el,(H,hi),r,a7⟩
 .rw[heap_setCells_other _ _ _ _ _ hb]at U
  exact⟨cu,cz,cm,U,l8 _⟩):P:=h
def o3{P:Prop}(h:P:=by
 obtain rfl:X=F:=by
  have:¬z e=1:=a7;rw[<-hz];simp[cN,this]
 simp only[go_sem,j7,hn]):P:=h
def o6{P:Prop}(h:P:=by
 intro r g1 av Q K1;simp only[go_sem];refine⟨_,ai.refl _,?_⟩;simp only[go_sem];exact ar.pack Q (v.trans (cY.down K1 a7)) rfl rfl (o:=[]) rfl):P:=h
def pv{P:Prop}(h:P:=by
 simp only[go_sem,hg,t,q,X,e];refine⟨a7,?_⟩;refine cJ rfl (by simp only[go_sem];exact az _ _ (U.same (λi hi=>by (try simp only[upd]);repeat (rw[j9 (by omega)]);try rfl) (λi hi=>by (try simp only[upd]);repeat (rw[j9 (by omega)]);try rfl)) F) ?_;exact gD):P:=h
def p8{P:Prop}(h:P:=by
 simp only[go_sem,hg,t,q,X,e];refine⟨a7,?_⟩;refine cJ rfl (by simp only[go_sem];exact az _ _ (U.same (λi hi=>by (try simp only[upd]);repeat (rw[j9 (by omega)]);try rfl) (λi hi=>by (try simp only[upd]);repeat (rw[j9 (by omega)]);try rfl)) T) ?_;exact gD):P:=h
def p9{P:Prop}(h:P:=by
 refine⟨_,ai.refl _,?_⟩;simp only[go_sem];exact bB.nil (λi hi=>⟨nu,nu⟩) (o:=[ae 2]) ⟨_,_,rfl,.one (.d _),rfl⟩ ⟨rfl,rfl,rfl⟩):P:=h
def qc{P:Prop}(h:P:=by
 refine⟨0,rfl,⟨?_,?_,?_,?_,?_,?_,?_⟩,?_⟩<;>(simp only[go_sem,q1,q4,q5,q6,o1,o4,o5,G])
 .rfl
 .exact fr
 .exact⟨M,oM,mM,t⟩):P:=h
def qk{P:Prop}(h:P:=by
 refine⟨y,Y,q1,λG bk=>?_,q3⟩;have q2:=q2 G bk;simp only[Sem.run_pure,Result.ok.injEq,M6]at q2;subst q2;have hf:(Instr.findKey n (dV A) []).run P G=.ok N G:=MapKept.run_findKey hk rfl;simp[Instr.lookup,run_underlying L,az,hf,b]):P:=h
def qo{P:Prop}(h:P:=by
 have:(λi=>(Array.replicate ops.size F).getD i F)=λ_=>F:=by
  funext i;rw[z7,F0];split<;>rfl
 rw[this];exact h0):P:=h
def ra{P:Prop}(h:P:=by
 refine⟨y,Y,q1,λG bk=>?_,q3⟩;have q2:=q2 G bk;rw[g2]at q2;simp only[Sem.run_pure,Result.ok.injEq,M6]at q2;subst q2;simp[Instr.lookup,run_underlying L,MapKept.run_getObj_map (bk.cells r),az,MapKept.run_findKey hk g1,b]):P:=h
def r8{P:Prop}(h:P:=by
 refine cC y8 ?_;intro K' a';simp only[go_sem];refine a' _ ?_;clear a' K';simp only[go_sem,q,hw];refine ao (m-1) a7 ⟨k+1,a7,?_⟩;simp only[go_sem,q2,q9,A,o2];refine⟨by rw[xR he],λj hj=>⟨nt ((fr j hj).1),nt ((fr j hj).2)⟩,λj hj=>nt (ar j hj)⟩):P:=h
def sc{P:Prop}(h:P:=by
 refine⟨by simp only[go_sem,q4],by simp only[go_sem,q5],by simp only[go_sem],by simp only[go_sem],by simp only[go_sem],by simp only[go_sem],by simp only[go_sem],λi hi I=>?_⟩;simp only[upd]
 (repeat rw[j9 (by omega)])
 exact⟨rfl,rfl⟩):P:=h
def sn{P:Prop}(h:P:=by exact .sl (sz:=sz) (λ_ _=>undef) a8 (λh=>absurd rfl h) (λ_ h=>by cases h) (λ_ _ h=>by cases h) (λ_ _ h=>by cases h)):P:=h
def so{P:Prop}(h:P:=by
 simp only[upd,z7,N7];by_cases hj:i=j
 .subst hj;simp[az,b3]
 .have:¬j=i:=λe=>hj e.symm
  simp[hj,this]):P:=h
def sr{P:Prop}(h:P:=by exact wpIn_mono (hR al β a ds w Z V X) (λe a' G⟨W,A,a0,H,h0,U,h2,h3⟩=>⟨W,A,a0,H,h0,U.imp (J _ _) (λh=>h),h2,h3⟩)):P:=h
def sT{P:Prop}(h:P:=by
 have hi:¬(e1:Int)=0:=a7;simp only[go_sem,al,P,rnM,hi];refine⟨_,ai.refl _,?_⟩;simp only[go_sem];exact dY (w:=c) (e':=e1) (ad:=H) (bd:=L) (r:=N) h loM gK ⟨L,N,H,e1,c,eT.mke (by rw[<-V,A1.en he];rfl) he,K1,rfl,rfl,rfl⟩):P:=h
def s8{P:Prop}(h:P:=by
 have bl:=(hT t (by rw[hd];rfl)).desc;rw[hd]at bl;refine gS h λw=>?_;rw[Sem.run_bind,iV _ _ _ _ _ _ a8 a8];simp only[binOp,Sem.run_bind,Result.andThen_ok,run_equal_bool bl,Sem.run_pure];cases a<;>cases b<;>rfl):P:=h
def tb{P:Prop}(h:P:=by
 exfalso;obtain⟨e,he,ho,bn⟩:=G i hi;obtain⟨e',cf,q,et⟩:=G j hj;simp only[dst,ho,q,Ly]at U h2;rcases(a1 i e hi ho bn).2.1 j e'.o hj a7 q with h|h
 .rw[h]at h2;cases h2
 .exact h (by rw[U,h2])):P:=h
def ti{P:Prop}(h:P:=by
 obtain rfl:X=F:=by
  have:¬kids=[]:=λe=>t (by rw[e];rfl);rw[<-hz];simp[bS,this]
 simp only[go_sem,j7,t]):P:=h
def tj{P:Prop}(h:P:=by
 refine runM (s:=⟨_,_,_⟩) (G:=G) (e:=0) (q:=N) (bd:=L) h rfl ⟨rfl,rfl,rfl⟩ λi hi=>?_;have hk:∀k,(i=B+k)=False:=λk=>by simp;omega
 have:=h.same i;simp only[upd,hk,B1]at this|-;exact this):P:=h
def tp{P:Prop}(h:P:=by
 simp only[SSM,C1,A0,B3,F2,D6,D4]at hi;rcases hi with hi|⟨k,hk,rfl⟩<;>omega):P:=h
def tz{P:Prop}(h:P:=by
 refine⟨h.1,h0.2.1,λhg ho=>?_⟩;obtain⟨l1,l2,y⟩:=hl id ho;rw[<-l2];exact h.2.2 (by rw[l1];exact hg) y):P:=h
def tI{P:Prop}(h:P:=by
 refine xq (λi=>p i=T) rfl (λi=>.inl rfl) (λi l Z=>?_);simp only at Z;by_cases h:p i=T
 .rw[l9 h]at Z;cases Z
 .rw[j9 h]at Z
  exact⟨h,l,Z,rfl,λj c c' e1 e2=>.inl (by rw[e1]at e2;exact(H0 e2).symm)⟩):P:=h
def uo{P:Prop}(h:P:=by exact gf b3 ⟨bf.defers,hn _ β _ w rfl bf (a6 _ _ _ _ _ _ _ X (Tr.same (St.put_gen _ _ _) (St.put_obj _ _ _) rfl))⟩):P:=h
def u0{P:Prop}(h:P:=by
 refine ao (m-1) a7 ⟨k+1,a7,⟨?_,?_,?_,?_,?_,?_,?_⟩,?_⟩<;>(simp only[go_sem,q1,q4,q5,q6,o1,o4,A,e])
 .rw[hT,kA]
 .exact λi hi=>⟨nt ((fr i hi).1),nt ((fr i hi).2)⟩
 .exact⟨y,rfl,by rw[hT];exact o,u⟩):P:=h
def u1{P:Prop}(h:P:=by
 by_cases u:op=0
 case neg=>
  exact ld
 by_cases a:num=0
 case neg=>
  exact mS
 by_cases c:name=[]
 case neg=>
  obtain rfl:X=F:=by rw[<-hz];simp[bS,ay,c]
  simp only[go_sem,j,u,a,c]
 exact ln):P:=h
def u2{P:Prop}(h:P:=by
 rw[hq]at Z;simp only[A3,w7]at Z;subst Z;refine⟨_,rfl,?_⟩;simp only[aK];exact cD.of_plain (by have:=bl.plain;rw[x9]at this;exact this x (l7 hq))):P:=h
def u6{P:Prop}(h:P:=by
 unfold Src.iY at this;simp at this;omega):P:=h
def vr{P:Prop}(h:P:=by
 refine ao (m-1) a7 ⟨k+1,a7,⟨?_,?_,?_,?_,?_,?_,?_⟩,?_⟩<;>(simp only[go_sem,q1,q4,q5,q6,o1,o4,A,e])
 .rw[hT,kA]
 .exact λi hi=>⟨(fr i hi).1,nt ((fr i hi).2)⟩
 .exact⟨y,rfl,by rw[hT];exact o,u⟩):P:=h
def wa{P:Prop}(h:P:=by
 have Q:¬(k:Int)<(z l:Int):=a7;rw[y9 a7]at Z;obtain rfl:X=T:=Z.symm;simp only[go_sem,q1,q5,Q,j7]):P:=h
def wk{P:Prop}(h:P:=by
 simp only[go_sem,l5,x7];refine aG (λm K=>m=0/\K.f 14=.one (aq [])/\K.f 15=ae 0/\K.f 16=ae 0) 0 ?_ ?_
 .exact gW
 rintro m f g1 av ⟨rfl,E,n,A⟩;simp only at E n A;simp only[go_sem,E,n,A]):P:=h
def w5{P:Prop}(h:P:=by
 intro g1 av p1 q1 r1;simp only[go_sem];refine jq (λi=>decide (K<=i)) ?_;exact⟨rfl,p1.fin J⟩):P:=h
def xc{P:Prop}(h:P:=by
 have U:=Src.TN x.word x.body;have h2:=Src.Oy (λx:Src.CFn=>Src.oh x.body) I;have h3:((ab p).f.map λx=>Src.oh x.body).sum=(p.f.map λf=>Src.aN f.body).sum:=Src.BL _ _ _;unfold Emit.cw;omega):P:=h
def x2{P:Prop}(h:P:=by
 obtain⟨a,b⟩:=x;by_cases h:a=4
 .subst h;rfl
 .simp[upF,sh,h]):P:=h
def x3{P:Prop}(h:P:=by exact⟨bf.defers,v,U,v,r,rfl,h2,ht.size,λb hb=>ht.old b hb,ht.os,h3⟩):P:=h
def ys{P:Prop}(h:P:=by
 simp only[v7,C6,A7]at this|-;exact this):P:=h
def y1{P:Prop}(h:P:=by exact⟨_,eb (k:=0) (v:=0) (e:=3),rfl⟩):P:=h
def y2{P:Prop}(h:P:=by
 refine⟨_,ai.refl _,?_⟩;simp only[go_sem];exact ar.pack Q (K1.down a7) rfl rfl (o:=[]) rfl):P:=h
def zs{P:Prop}(h:P:=by
 rintro _ rfl;unfold rR fO;simp only[go_sem];exact⟨_,uR,rfl⟩):P:=h
def zv{P:Prop}(h:P:=by
 subst h hn;exact⟨rfl,⟨iI 0 1 rfl b9 a7 a8 (by rw[hT];congr 1;omega),trivial⟩,λh=>h.1⟩):P:=h
def z8{P:Prop}(h:P:=by
 simp only[go_sem]at J|-;refine qg aa rfl hF (by simp only[go_sem]) (B:=B+232) (λi hi=>by simp only[upd];(repeat rw[j9 (by omega)]);exact h.free i (by omega)) ?_;exact lv):P:=h
def Bc{P:Prop}(h:P:=by
 rw[s7 (l8 _),hL]at o5 mM;simp only[go_sem,e,a,Q];refine aP c9 ?_;simp only[go_sem,q4,q5,o4,o5];refine⟨_,ai.refl _,?_⟩;simp only[go_sem];exact⟨rfl,⟨M,oM,mM,t⟩,fr⟩):P:=h
def B2{P:Prop}(h:P:=by
 refine⟨_,ai.refl _,?_⟩;simp only[go_sem];exact tC (sd) rfl):P:=h
def G2{P:Prop}(h:P:=by
 refine⟨0,0,rfl,rfl,C7 _,b9,?_⟩;simp only[go_sem,f1,f2,f3,p,q,f4,o1,o2];refine⟨?_,?_,?_⟩
 .rw[s7 a7,we];rfl
 .rw[s7 a7,lJ];rfl
 .rw[s7 a7,lJ];rfl):P:=h
def K0{P:Prop}(h:P:=by
 refine⟨0,rfl,⟨?_,?_,?_,?_,?_,?_,?_⟩,?_⟩<;>(simp only[go_sem])
 .rfl
 .rfl
 .exact λi hi=>⟨nu,nu⟩
 .exact⟨[],rfl,λs=>rfl,λc Z=>by cases Z⟩):P:=h
def K3{P:Prop}(h:P:=by
 refine⟨_,ai.refl _,?_⟩;simp only[go_sem,n1,n2];exact bB.nil (λi hi=>⟨nu,nu⟩) (o:=[.agg ((plD t).map .d)]) ⟨_,_,rfl,Gq (plD t),rfl⟩ ⟨rfl,rfl,rfl⟩):P:=h
def K6{P:Prop}(h:P:=by
 simp only[Oper.upon];have:=hp.2 O al β a s.f w (args.toList.map a.eval) V (jF V _);rw[show (args.toList.map a.eval).toArray=args.map a.eval from J7 a8]at this;exact gH):P:=h
def Lm{P:Prop}(h:P:=by
 simp only[St.newC,upd];split
 .rename_i he;subst he;exact P9 (uW _ _)
 .exact l8 _):P:=h
def Lw{P:Prop}(h:P:=by exact wp_mono (hR O al β a w Z V) (λe a' G⟨W,A,U,h2,h3⟩=>⟨W,A,J _ _ U,h2,h3⟩)):P:=h
def Mi{P:Prop}(h:P:=by
 refine aP c9 ?_;simp only[go_sem,q6,q7,h,az,u24,u23,x,E,cm];refine⟨l8 _,?_⟩;rw[s7 a7,Ki];simp only[go_sem,yc,q6,q7,h,u24,x,E];exact⟨_,Fa,rfl⟩):P:=h
def Mo{P:Prop}(h:P:=by
 obtain⟨j,t⟩:=p;rw[hg]at cb;obtain⟨d,hj,hb⟩:=cb;have hy:=V.yielded hj hb;simp[Region.wanted,hg,hy]):P:=h
def R0{P:Prop}(h:P:=by
 obtain⟨k,t,v⟩:=y;rw[wz];simp only[go_sem];exact⟨_,eb (e:=0),rfl⟩):P:=h
def R1{P:Prop}(h:P:=by
 refine⟨_,ai.refl _,?_⟩;simp only[go_sem];exact bB.use (λi hi h5 h6=>⟨(fr i hi).1,(fr i hi).2 h5 h6⟩) (fr 5 a7).1 (fr 6 a7).1 o5 W (o:=[]) rfl):P:=h
def R2{P:Prop}(h:P:=by
 obtain rfl:X=F:=by rw[<-hz];simp[cN,ay,c,ep]
 simp only[go_sem,j7,j,a6,G,c]):P:=h
def R3{P:Prop}(h:P:=by
 refine this.mono λe G⟨v,r,g',Y,A,he,hR,hv,U,h2,h3⟩=>?_;subst he;obtain⟨k1,k2⟩:=jo V c hv U h2 h3;exact hn _ A _ G ⟨r,g',Y,hR,rfl⟩ k1 k2):P:=h
def S1{P:Prop}(h:P:=by
 rcases m e (by simpa using he)with h|h
 .rw[hb]at h;cases h
 .exact h):P:=h
def S3{P:Prop}(h:P:=by
 rintro _ rfl;exact lv):P:=h
def S4{P:Prop}(h:P:=by
 simp only[ak,aK];exact⟨rfl,hv.2.1,λ_ _=>⟨ad,av,bo,by simp[C2]⟩⟩):P:=h
def S6{P:Prop}(h:P:=by exact⟨_,⟨_,⟨_,_,rfl,kM .nsl,_,_,rfl,kM _,_,_,rfl,kM _,rfl⟩,rfl⟩,rfl⟩):P:=h
def Vp{P:Prop}(h:P:=by
 obtain rfl:X=F:=by rw[<-hz];simp[bS,ay,c,ep]
 simp only[go_sem,j,u,a,c]):P:=h
def Vq{P:Prop}(h:P:=by
 unfold jP;split
 .rename_i hm
  simp only[A0,B3,F2]at hm;rcases hm with rfl|rfl
  .exact gO
  .exact absurd rfl hi
 .rfl):P:=h
def Vr{P:Prop}(h:P:=by
 rcases A1.then A2 with⟨h0,_⟩|⟨_,⟨U,h2,_⟩|⟨U,_⟩⟩
 .exact absurd h0 he
 .rw[<-V,U];simp only[Rs.bind,h2]
 .rw[<-V,U];rfl):P:=h
def Vs{P:Prop}(h:P:=by exact h.elim):P:=h
def Vt{P:Prop}(h:P:=by simpa using this):P:=h
def Vu{P:Prop}(h:P:=by
 rcases this with((h|h)|h)|h
 .exact .inl h
 .exact .inr (.inl h)
 .exact .inr (.inr h)
 .rw[J8.2 b6]at h;cases h):P:=h
def Vv{P:Prop}(h:P:=by exact⟨y,Y,U,λG bk=>by simp[execOp,h2 G bk],h3⟩):P:=h
def Vw{P:Prop}(h:P:=by refine⟨⟨by rw[setCells_size];exact hb.1,hb.2.1,λi a' a6=>hb.2.2 i a' (by rw[<-X i];exact a6)⟩,heap_setCells_other _ _ _ _ _ b4⟩):P:=h
def Vx{P:Prop}(h:P:=by
 cases Z;simp only[rnM,A0,B3,F2]at E;rcases E with rfl|rfl|rfl|rfl|rfl|rfl|rfl|rfl|rfl|rfl|rfl<;>first|trivial|(show _<B;omega)):P:=h
def Vy{P:Prop}(h:P:=by exact lk hT rest hp g h (λs2 ad a2 w2 k1 k2 k3=>hQ _ _ _ _ k1 k2 (Tr.trans (Tr.same (by rw[St.put_gen]) (by rw[St.put_obj]) rfl) k3))):P:=h
def Vz{P:Prop}(h:P:=by simp only[go_sem,q1,o1]):P:=h
def VA{P:Prop}(h:P:=by
 simp only[go_sem,e1,e2,l,hl];refine cg rfl (by simp only[go_sem];exact h3 F) ?_;rintro _ rfl;simp only[go_sem,hl]):P:=h
def VB{P:Prop}(h:P:=by
 simp only[go_sem,e1,e2,l,hl];refine cg rfl (by simp only[go_sem];exact h3 T) ?_;rintro _ rfl;simp only[go_sem,hl]):P:=h
def VC{P:Prop}(h:P:=by
 refine⟨_,ai.refl _,?_⟩;simp only[go_sem];exact wy h loM eY ⟨v,G,0,_,eE.mk V.symm,h.okm,rfl,rfl,rfl⟩):P:=h
def VD{P:Prop}(h:P:=by exact ij hT c rest Z g hp.2 h (λs2 a2 k1 k2 k3=>hQ _ _ k1 k2 (Tr.trans (Tr.same (by rw[St.put_gen]) (by rw[St.put_obj]) rfl) k3))):P:=h
def VE{P:Prop}(h:P:=by exact iO hT c rest Z g hp.2 h (λs2 a2 k1 k2 k3=>hQ _ _ k1 k2 (Tr.trans (Tr.same (by rw[St.put_gen]) (by rw[St.put_obj]) rfl) k3))):P:=h
def VF{P:Prop}(h:P:=by
 subst he;obtain⟨k1,k2⟩:=jo V c hv U h2 h3;exact⟨k1.defers,hn _ A _ G ⟨r,g',Y,hR,rfl⟩ k1 (a6 _ _ _ _ _ _ _ X k2)⟩):P:=h
def VG{P:Prop}(h:P:=by
 obtain rfl:X=0:=by rw[<-hz,hw];simp
 exact gW):P:=h
def VH{P:Prop}(h:P:=by
 have:=pO b5 b8 j e2.o cv (λe' cf b2=>b8 j _ x cv e' cf b2) i h;rw[hL]at this;exact absurd this.1 a8):P:=h
def VI{P:Prop}(h:P:=by exact XR.cast this (by simp only[j8,l4,l5];omega)):P:=h
def VJ{P:Prop}(h:P:=by
 refine⟨0,rfl,?_⟩;simp only[St.grab];simp only[go_sem];exact⟨rfl,λj hj=>⟨nu,nu⟩,λj hj=>nt (hB j a7)⟩):P:=h
def VK{P:Prop}(h:P:=by
 simp only[go_sem,n8,V,q1,q2,q3,q7,q8];exact h1):P:=h
def VL{P:Prop}(h:P:=by
 refine⟨0,rfl,by rw[D7];exact hz,?_⟩;simp only[go_sem];exact⟨λj hj=>⟨nu,nu⟩,λj hj=>nt (hf j a7)⟩):P:=h
def VM{P:Prop}(h:P:=by
 simp only[s5]at this;have h2:=this.1.1;simp only at bz;rw[<-bz,ep]at h2;cases h2):P:=h
def VN{P:Prop}(h:P:=by
 rw[wA];simp only[go_sem];exact⟨_,eb (k:=0) (v:=0),rfl⟩):P:=h
def VO{P:Prop}(h:P:=by
 exact this.imp λv ad this=>by
  exact⟨this.1,this.2.1,this.2.2.1,by have:=this.2.2.2;simp only at this;omega⟩):P:=h
def VP{P:Prop}(h:P:=by obtain⟨_,_,_,_,_,h⟩:=an;rcases h with⟨h,_⟩|⟨h,_⟩|⟨h,_⟩|⟨h,_⟩|⟨h,_⟩|⟨h,_⟩|⟨_,h⟩<;>omega):P:=h
def VQ{P:Prop}(h:P:=by
 have:=x9.1 ar ops[i] (H3 b3);rw[hd]at this;exact Vt):P:=h
def VR{P:Prop}(h:P:=by exact gz h (λw=>by simp[Builtin.len_,run_underlying L,goInt])):P:=h
def VS{P:Prop}(h:P:=by
 simp only[go_sem,n8,V,q1,q2,q6,q7];exact h1):P:=h
def VT{P:Prop}(h:P:=by
 rw[av]at b6;obtain⟨rfl,rfl⟩:=b6;have:es=[]:=z6 hlen;subst this;exact .sl0):P:=h
def VU{P:Prop}(h:P:=by
 rw[l9 hw]at h;rw[l9 (by simp[Region.wanted,hg,hy,hw])];exact u bf (Tr.same rfl rfl rfl) h):P:=h
def VV{P:Prop}(h:P:=by
 obtain⟨k,rfl⟩:∃k,op=k+1:=⟨op-1,a7⟩
 have:z names<=k:=by show 27<=k;omega
 simp[nameOf,this]):P:=h
def VW{P:Prop}(h:P:=by
 refine⟨0,a,b,rfl,by rw[D7];exact bk,by rw[D7];exact ad,?_⟩;simp only[go_sem,hn,L];exact λj hj=>hB j a7):P:=h
def VX{P:Prop}(h:P:=by
 have Q:¬(k:Int)<(z l:Int):=a7;rw[y9 a7]at Z;obtain rfl:X=T:=Z.symm;simp only[go_sem,q0,q5,Q,j7]):P:=h
def VY{P:Prop}(h:P:=by
 obtain rfl:X=F:=by
  have:¬z kids=1:=a7;rw[<-hz];simp[bS,this]
 simp only[go_sem,j7,t]):P:=h
def V0{P:Prop}(h:P:=by
 obtain⟨n,hn⟩:∃n,Op.maxDepth=n+1:=⟨_,rfl⟩
 unfold Op.equal;rw[hn,Op.equalIn];simp[run_underlying L]):P:=h
def V1{P:Prop}(h:P:=by (repeat' first|assumption|apply A4)):P:=h
def V2{P:Prop}(h:P:=by
 obtain rfl:X=F:=by rw[<-hz];simp[bS,ay,an]
 exact gW):P:=h
def V3{P:Prop}(h:P:=by
 obtain rfl:X=F:=by rw[<-hz];simp[cN,ay,an]
 exact gW):P:=h
def V4{P:Prop}(h:P:=by exact iL hT rest Z g hp.2 h (λs2 a2 k1 k2 k3 k4=>hQ _ _ k1 k2 (by rw[k3,St.put_gen]) (by rw[k4,St.put_obj]))):P:=h
def V5{P:Prop}(h:P:=by
 rw[hg]at h;simp only at h;rw[l9 (by simp[Region.wanted,hg])];exact u V Tr.refl h):P:=h
def V6{P:Prop}(h:P:=by
 refine⟨0,rfl,a8,?_⟩;exact gW):P:=h
def V7{P:Prop}(h:P:=by
 simp only[go_sem,q1,o1,j8,A8];rw[s7 a8]):P:=h
def V8{P:Prop}(h:P:=by
 obtain⟨cells,Z⟩:=M9.1 hi;have:=V.obj i cells Z;rw[b']at this;exact this.block.2):P:=h
def V9{P:Prop}(h:P:=by exact eE.mke (by rw[<-V,A1.en he];rfl) he):P:=h
def W0{P:Prop}(h:P:=by
 unfold inW;cases b
 .exact gW
 .simp only[go_sem]
  exact⟨λh=>by simp[h],λh=>by simp[h]⟩):P:=h
def W1{P:Prop}(h:P:=by
 have b3:z args<=i:=by simpa using I
 exact hH):P:=h
def W2{P:Prop}(h:P:=by
 rw[O2 (B7 p)]at hk;obtain⟨v,hv,X⟩:=g5 k c hk;exact⟨v,hv,X.keep q⟩):P:=h
def W3{P:Prop}(h:P:=by
 subst h hn;exact⟨rfl,⟨iI 1 1 rfl b9 a7 a8 (by rw[hT];congr 1;omega),trivial⟩,λh=>h.1⟩):P:=h
def W4{P:Prop}(h:P:=by
 have b3:z xs<=i:=by simpa using I
 exact hH):P:=h
def W5{P:Prop}(h:P:=by
 rw[hq]at Z;simp only[A3,w7]at Z;subst Z;exact e3 j x hq):P:=h
def W6{P:Prop}(h:P:=by
 rw[z7,B8 a7]at y;rw[B8 a7];simpa using y):P:=h
def W7{P:Prop}(h:P:=by simp only[go_sem,q0]):P:=h
def W8{P:Prop}(h:P:=by
 obtain⟨u,L,f⟩:=ca _ _ (Z m x I);exact⟨u,by rw[fU r,C2];exact L,ih m x I f⟩):P:=h
def W9{P:Prop}(h:P:=by
 simp only[s6,A0,Q2]at hv;simp only[maskm,upd];rw[j9 hv.1];exact ih hv.2):P:=h
def Xc{P:Prop}(h:P:=by
 have h3:¬fnD.name = "runtime.NumGoroutine":=by simpa using k
 simp[invoke,callFunc,hf,hb,h3]):P:=h
def Xe{P:Prop}(h:P:=by
 exact this.imp λv ad this=>by
  exact⟨this.1,this.2.1,this.2.2.1,D0 a4 this.2.2.2⟩):P:=h
def Xf{P:Prop}(h:P:=by
 rintro _ rfl;simp only[go_sem,q7,hw];refine bN af ⟨_,Z,a7,?_⟩;simp only[go_sem,q0,q2]):P:=h
def Xj{P:Prop}(h:P:=by
 rcases A1.then A2 with⟨_,U,h2,_⟩|⟨h0,_⟩
 .exact⟨U,h2⟩
 .exact absurd rfl h0):P:=h
def Xo{P:Prop}(h:P:=by
 rintro m f g1 av ⟨k,hk,b,q0,q9,A,q,fr,ar⟩;simp only at q0 q9 A q fr ar;exact lo):P:=h
def Xp{P:Prop}(h:P:=by
 rw[e1];exact⟨a7,⟨b9,a7⟩,J⟩):P:=h
def Xq{P:Prop}(h:P:=by
 simp only[go_sem]at J|-;refine cU rfl (by simp only[go_sem];exact hF) ?_;exact S3):P:=h
def Xr{P:Prop}(h:P:=by exact gf (by simp[execOp,h2]) (hn _ _ _ _ U h3 h4)):P:=h
def Xs{P:Prop}(h:P:=by simp only[upd];rw[l9 trivial];simp only[bH.cells,bH.at,hQ.s,hQ.ds,hQ.bk,hQ.b,hQ.e,hQ.p,ksD]):P:=h
def Xt{P:Prop}(h:P:=by exact⟨X,Y,U,λG bk=>by rw[Sem.run_bind,iV _ _ _ _ _ _ a8 a8];simpa using h2 G bk,h3⟩):P:=h
def Xu{P:Prop}(h:P:=by
 have:=V.2.2 f hf;unfold Src.fF at this;simp only[s5,B4]at this;exact this.1.2):P:=h
def Xv{P:Prop}(h:P:=by exact⟨W,A,a0,H,rfl,.inr ⟨ch,rfl,U⟩,h2,h3⟩):P:=h
def Xw{P:Prop}(h:P:=by
 refine⟨0,rfl,by rw[D7];exact hz,?_⟩;simp only[go_sem];exact λj hj=>hf j a7):P:=h
def Xx{P:Prop}(h:P:=by
 by_cases h:l=[]
 .exact .inl h
 .exact .inr ⟨l.dropLast,l.getLast h,(N8 h).symm⟩):P:=h
def Xy{P:Prop}(h:P:=by
 rw[hq]at hs;cases hs;have:=J hq;simp only at this;omega):P:=h
def Xz{P:Prop}(h:P:=by
 refine Fp λa b d=>eF (c f L G a (j d).1) λx H=>?_;rw[c f L H b (j d).2]):P:=h
def XA{P:Prop}(h:P:=by
 rw[l9 h];have hi:¬(e:Int)=0:=a7;simp only[go_sem,hi];exact⟨_,pC,rfl⟩):P:=h
def XB{P:Prop}(h:P:=by cases a.testBit i<;>cases b.testBit i<;>rfl):P:=h
def XC{P:Prop}(h:P:=by simp only[go_sem,q0,q1,q5,al,P,o5]):P:=h
def XD{P:Prop}(h:P:=by simp only[go_sem]):P:=h
def XE{P:Prop}(h:P:=by simp only[go_sem,n1,n2]):P:=h
def XF{P:Prop}(h:P:=by simp only[upd];rw[l9 trivial]):P:=h
def XG{P:Prop}(h:P:=by first|(simp[upd];done)|(simp only[upd];exact nt (hn))):P:=h
def XH{P:Prop}(h:P:=by simp;omega):P:=h
def XI{P:Prop}(h:P:=by first|(simp[upd];done)|(simp only[upd];exact nt (L))):P:=h
def XJ{P:Prop}(h:P:=by simp only[go_sem,n1,n2];all_goals rfl):P:=h
def XK{P:Prop}(h:P:=by simp only[go_sem];rfl):P:=h
def XL{P:Prop}(h:P:=by simp[upd]):P:=h
def XM{P:Prop}(h:P:=by first|rfl|simp only[go_sem,A,bU]):P:=h
def XN{P:Prop}(h:P:=by first|exact hl|((try simp only[ax,aD,aE,Emit.dJ,Emit.du,j8,l4,l5]);omega)):P:=h
def XP{P:Prop}(h:P:=by first|exact hh|((try simp only[ax,aD,aE,Emit.dJ,Emit.du,j8,l4,l5,s9]);omega)):P:=h
def XQ{P:Prop}(h:P:=by simp only[go_sem];exact cV ho name F):P:=h
def XS{P:Prop}(h:P:=by simp only;omega):P:=h
def X1{P:Prop}(h:P:=by simp only[go_sem,dC];rfl):P:=h
def X2{P:Prop}(h:P:=by simp only[St.claimAt];simp only[go_sem]):P:=h
def X6{P:Prop}(h:P:=by simp only[go_sem,n1,n2,ho]):P:=h
def X7{P:Prop}(h:P:=by first|rfl|simp only[go_sem,c,e,bU]):P:=h
def X8{P:Prop}(h:P:=by first|exact hl|((try simp only[ax,aD,aE,Emit.dJ,Emit.du,j8,l4,l5]);omega)):P:=h
def X9{P:Prop}(h:P:=by first|exact hh|((try simp only[ax,aD,aE,Emit.dJ,Emit.du,j8,l4,l5,s9]);omega)):P:=h
def Yr{P:Prop}(h:P:=by have:=ar.pc;simp only[l4,l5]at hp;omega):P:=h
def Ys{P:Prop}(h:P:=by simp only[go_sem];exact hT):P:=h
def Yt{P:Prop}(h:P:=by simp only[go_sem];exact hL):P:=h
def Yu{P:Prop}(h:P:=by first|omega|(simp only;omega)):P:=h
def Yv{P:Prop}(h:P:=by simp[ho]):P:=h
def Yw{P:Prop}(h:P:=by simp[Region.wanted,hg,hy,hw]):P:=h
def Yx{P:Prop}(h:P:=by simp only[go_sem];exact cV ho name T):P:=h
def Yy{P:Prop}(h:P:=by first|rfl|simp only[go_sem]):P:=h
def Yz{P:Prop}(h:P:=by simp only[bJ,j8,j7,l4,l5];omega):P:=h
def YA{P:Prop}(h:P:=by simp only[aD,j8,l4,l5];omega):P:=h
def YB{P:Prop}(h:P:=by rw[L];simp only[l4,l5];omega):P:=h
def YC{P:Prop}(h:P:=by simp[Tryz.ntmps178]):P:=h
def YD{P:Prop}(h:P:=by simp only[j8,l4];omega):P:=h
def YE{P:Prop}(h:P:=by simp only[go_sem,n1,n2,kB]):P:=h
def YF{P:Prop}(h:P:=by simp only[go_sem];exact jL name):P:=h
def YG{P:Prop}(h:P:=by simp only[aD,s9,l5];omega):P:=h
def YH{P:Prop}(h:P:=by rw[hd];rfl):P:=h
def YI{P:Prop}(h:P:=by simp[Tryz.ntmps141]):P:=h
def YJ{P:Prop}(h:P:=by first|exact d.2.2.2|(simp[d.2.2.2])):P:=h
def YK{P:Prop}(h:P:=by first|exact d.2.2.1|(simp[d.2.2.1])):P:=h
def YL{P:Prop}(h:P:=by simp only[go_sem];rw[<-b3]):P:=h
def YM{P:Prop}(h:P:=by simp only[go_sem];exact hN):P:=h
def YN{P:Prop}(h:P:=by simp[I]):P:=h
def YO{P:Prop}(h:P:=by simpa using hl):P:=h
def YP{P:Prop}(h:P:=by subst e;rw[u51]at hu;cases hu):P:=h
def YQ{P:Prop}(h:P:=by subst e;rw[u49]at hu;cases hu):P:=h
def YR{P:Prop}(h:P:=by subst e;rw[u54]at hu;cases hu):P:=h
def YS{P:Prop}(h:P:=by subst e;rw[u52]at hu;cases hu):P:=h
def YT{P:Prop}(h:P:=by simpa using I):P:=h
def YU{P:Prop}(h:P:=by simpa using h):P:=h
def YV{P:Prop}(h:P:=by simpa using hi):P:=h
def YW{P:Prop}(h:P:=by simp only[go_sem];exact hB):P:=h
def YX{P:Prop}(h:P:=by simp[Region.wanted,hg,hy]):P:=h
def YY{P:Prop}(h:P:=by first|rfl|simp only[go_sem,j,m,bU]):P:=h
def YZ{P:Prop}(h:P:=by first|exact hl|((try simp only[ax,aD,aE,Emit.dJ,Emit.du,j8,l4,l5]);omega)):P:=h
def Y0{P:Prop}(h:P:=by first|exact hh|((try simp only[ax,aD,aE,Emit.dJ,Emit.du,j8,l4,l5,s9]);omega)):P:=h
def Y1{P:Prop}(h:P:=by simp only[go_sem,uG];rfl):P:=h
def Y2{P:Prop}(h:P:=by simp[Tryz.ntmps81]):P:=h
def Y3{P:Prop}(h:P:=by have:=(l6.1 hf).1;omega):P:=h
def Y4{P:Prop}(h:P:=by simp[next]):P:=h
def Y5{P:Prop}(h:P:=by rw[hm.pc];exact I):P:=h
def Y6{P:Prop}(h:P:=by simp only[go_sem];exact cG rfl):P:=h
def Y7{P:Prop}(h:P:=by simp[aW,ho]):P:=h
def Y8{P:Prop}(h:P:=by obtain⟨b,rfl,e1,e2⟩:=h6;exact sE K e1 e2):P:=h
def Y9{P:Prop}(h:P:=by simp only[go_sem,b3];exact J):P:=h
def Za{P:Prop}(h:P:=by simp only[go_sem,q6]):P:=h
def Zb{P:Prop}(h:P:=by simp only[go_sem,q0]):P:=h
def Zc{P:Prop}(h:P:=by simp[e]):P:=h
def Zd{P:Prop}(h:P:=by simp only[go_sem];exact dc _ _ (e1 _) (by simp only[upd];(repeat rw[j9 E.2]);exact H)):P:=h
def Ze{P:Prop}(h:P:=by simp only[go_sem];exact hS):P:=h
def Zf{P:Prop}(h:P:=by simp only[go_sem];exact hE):P:=h
def Zg{P:Prop}(h:P:=by simp only[go_sem];exact zk):P:=h
def Zh{P:Prop}(h:P:=by simp only[go_sem];exact zl):P:=h
def Zi{P:Prop}(h:P:=by simp only[go_sem];exact hW):P:=h
def Zj{P:Prop}(h:P:=by simp only[go_sem];exact hD):P:=h
def Zk{P:Prop}(h:P:=by have:=h.sm.a;omega):P:=h
def Zl{P:Prop}(h:P:=by simp only[go_sem];rw[<-b3];exact CW _):P:=h
def ZC{P:Prop}(h:P:=by have:=pw hs;omega):P:=h
def ZD{P:Prop}(h:P:=by rw[ho];rfl):P:=h
def ZE{P:Prop}(h:P:=by rw[h.len];decide):P:=h
def ZF{P:Prop}(h:P:=by first|rfl|simp only[go_sem,p,s,bU]):P:=h
def ZG{P:Prop}(h:P:=by first|exact hl|((try simp only[ax,aD,aE,Emit.dJ,Emit.du,j8,l4,l5]);omega)):P:=h
def ZH{P:Prop}(h:P:=by first|exact hh|((try simp only[ax,aD,aE,Emit.dJ,Emit.du,j8,l4,l5,s9]);omega)):P:=h
def ZI{P:Prop}(h:P:=by omega):P:=h
def ZJ{P:Prop}(h:P:=by simp[hz]):P:=h
def ZK{P:Prop}(h:P:=by simp only[ax,aD,v7]):P:=h
def ZL{P:Prop}(h:P:=by simpa using m):P:=h
def ZM{P:Prop}(h:P:=by rw[o];simp only[cn,j7];omega):P:=h
def ZN{P:Prop}(h:P:=by rw[I];exact hw b G D H u code holes s.gen s.obj ar hg hl a):P:=h
def ZO{P:Prop}(h:P:=by simp only[go_sem];exact hF):P:=h
def ZP{P:Prop}(h:P:=by simp only[go_sem];exact hR):P:=h
def ZQ{P:Prop}(h:P:=by simp only[go_sem];exact hP):P:=h
def ZR{P:Prop}(h:P:=by simp only[go_sem];exact hG):P:=h
def ZS{P:Prop}(h:P:=by simp only[aD,l4,l5];omega):P:=h
def ZT{P:Prop}(h:P:=by simp only[ax,aD,aE,Emit.dJ,Emit.du,j8,l4,l5,v7,s9,A7]):P:=h
def ZU{P:Prop}(h:P:=by simp[hb]):P:=h
def ZV{P:Prop}(h:P:=by cases ho):P:=h
set_option maxHeartbeats 64000000
set_option maxRecDepth 100000
end
end Go
namespace Go.Am
section
def ite_cc{A:Sort _}{b c:Prop}[Decidable b][Decidable c]{x y:A}(h:b=c):ite b x y=ite c x y:=by subst h;congr
attribute [go_sem] reduceIte
end
section
attribute[local congr]ite_cc
section
inductive D where
 |bool (b:Bool)
 |int (k:IntKind) (n:Int)
 |str (s:List UInt8)
 |sl (es:List (List D))
 |nsl
 |nilp
 |nilf
 |nili
 |nilm
 |fn (f:FuncId)
 |iptr (cs:List D)
 |yld (l:Nat)
 deriving Inhabited
inductive PC where
 |d (x:D)
 |ptr (id g off:Nat)
 deriving Inhabited
inductive C where
 |d (x:D)
 |osl (id g sz off len:Nat)
 |ptr (id g off:Nat)
 |clo (f:FuncId) (q:List PC)
 |mp (id g kd:Nat)
 |lsl (n:Nat)
 |raw (o:Obj)
 deriving Inhabited
inductive AV where
 |one (c:C)
 |agg (cs:List C)
 |tup (vs:List AV)
 |junk
 |exact(v:Value)
 deriving Inhabited
structure St where
 f:Nat->AV
 gen:Nat->Nat
 obj:Nat->Option (List C)
inductive Box {A:Type} (a:A):Type where
 |mk
@[reducible]def bx{A:Type}(a:A):Box a:=.mk
def upd{A:Type}(f:Nat->A)(i:Nat)(v:A):Nat->A:=λj=>if j=i then v else f j
structure TI where
 desc:TypeDesc
 size:Nat
 bytes:Nat
 zero:List D
 deriving Inhabited
abbrev iv(k:IntKind)(n:Int):AV:=.one (.d (.int k n))
abbrev bv(b:Bool):AV:=.one (.d (.bool b))
abbrev sv(s:List UInt8):AV:=.one (.d (.str s))
abbrev uv:AV:=.tup []
abbrev ag(n:Int):C:=.d (.int .i64 n)
abbrev aq(l:List (List D)):C:=.d (.sl l)
abbrev bF(s:List UInt8):C:=.d (.str s)
abbrev bE(b:Bool):C:=.d (.bool b)
abbrev aj(i g o:Nat):AV:=.one (.ptr i g o)
abbrev dL(i g X o l:Nat):AV:=.one (.osl i g X o l)
abbrev ae(n:Int):AV:=iv .i64 n
def aaa:Value->C
 |.bool b=>.d (.bool b)
 |.int k n=>.d (.int k n)
 |.string s=>.d (.str s.data.toList)
 |.slice N 0 0=>.d .nsl
 |.pointer N=>.d .nilp
 |.nilFunc=>.d .nilf
 |.nilIface=>.d .nili
 |.map N=>.d .nilm
 |_=>.osl 0 0 0 0 0
def zB:Value->AV
 |.bool b=>.one (.d (.bool b))
 |.int k n=>.one (.d (.int k n))
 |.string s=>.one (.d (.str s.data.toList))
 |.slice N 0 0=>.one (.d .nsl)
 |.pointer N=>.one (.d .nilp)
 |.nilFunc=>.one (.d .nilf)
 |.nilIface=>.one (.d .nili)
 |.map N=>.one (.d .nilm)
 |_=>.junk
def St.ev(s:St):Operand->AV
 |.tmp t=>s.f t
 |.const v=>zB v
 |.global _=>.junk
 |.func f=>.one (.d (.fn f))
def St.put(s:St)(dst:Option Nat)(v:AV):St:=
 match dst with
 |none=>s
 |some d=>{s with f:=upd s.f d v}
def nxC(c g:Nat):Nat:=1000000*(g+1)+(if c<1000000 then c else 0)
def code(g:Nat):Nat:=g%1000000
def uW(c g:Nat):g<nxC c g:=by unfold nxC;omega
def yv(c g:Nat):nxC c g≠g:=Nat.ne_of_gt (uW c g)
def mw(c g:Nat):code (nxC c g)=if c<1000000 then c else 0:=by
 unfold code nxC;rw[Nat.mul_add_mod];split
 .rename_i h;exact L2 h
 .rfl
def Fv{c:Nat}(g:Nat)(h:c<1000000):code (nxC c g)=c:=by rw[mw,l9 h]
def apC(e g off:Nat):Nat:=if code g=e+1/\off=0 then e+1 else 0
def St.newC(c:Nat)(s:St)(d:Nat)(cs:List C):St:={s with gen:=upd s.gen d (nxC c (s.gen d)),obj:=upd s.obj d (S cs)}
def ed:TypeDesc->Bool
 |.struct _|.array _ _=>T
 |_=>F
def cellsOf:AV->Option (List C)
 |.one c=>S [c]
 |.agg cs=>S cs
 |_=>N
def setAt(cells:List C)(off:Nat):List C->List C
 |[]=>cells
 |c::cs=>setAt (cells.set off c) (off+1) cs
def zC(b:UInt8):D:=.int .u8 b.toNat
def kI(b:Bool){K:Bool->Prop}(_:Box K):Prop:=(b=T->K T)/\(b=F->K F)
def bX{A:Type}(x:Option A){K:A->Prop}(_:Box K):Prop:=
 match x with
 |some a=>K a
 |none=>False
def qD(v:AV){K:Bool->Prop}(k:Box K):Prop:=
 match v with
 |.one (.d (.bool b))=>kI b k
 |_=>False
def mZ(v:AV){K:Bool->Prop}(k:Box K){U:Prop}(_:Box U):Prop:=
 match v with
 |.one (.d (.bool b))=>kI b k
 |.tup []=>U
 |_=>False
def zD(B:TI)(cells:List C)(off:Nat){K:AV->Prop}(_:Box K):Prop:=
 match ed B.desc with
 |true=>off+B.size<=z cells/\K (.agg ((cells.drop off).take B.size))
 |false=>bX (cells[off]?) (bx λc=>K (.one c))
def Hi(B:TI)(cs:List D){K:AV->Prop}(_:Box K):Prop:=
 match ed B.desc with
 |true=>B.size<=z cs/\K (.agg ((cs.take B.size).map .d))
 |false=>bX (cs[0]?) (bx λc=>K (.one (.d c)))
def okD:TypeDesc->Bool
 |.invalid=>F
 |_=>T
def uX(B:TI)(s:St)(a:AV){K:AV->Prop}(k:Box K):Prop:=
 match a with
 |.one (.ptr id g off)=>okD B.desc=T/\s.gen id=g/\bX (s.obj id) (bx λe=>zD B e off k)
 |.one (.d (.iptr cs))=>okD B.desc=T/\Hi B cs k
 |_=>False
def sB(B:TI)(s:St)(a x:AV){K:St->Prop}(_:Box K):Prop:=
 match a with
 | .one (.ptr id g off)=>okD B.desc=T/\s.gen id=g/\bX (cellsOf x) (bx λh=>z h=B.size/\bX (s.obj id) (bx λe=>off+z h<=z e/\
     K {s with obj:=upd s.obj id (S (setAt e off h))}))
 |_=>False
def iZ(s:St)(sz:Nat)(x G:AV){K:AV->Prop}(_:Box K):Prop:=
 match G with
 |.one (.d (.int _ i))=>
   match x with
   |.one (.d (.sl es))=>0<=i/\bX (es[i.toNat]?) (bx λc=>z c=sz/\K (.one (.d (.iptr c))))
   |.one (.osl id g ar off len)=>s.gen id=g/\(s.obj id).isSome=T/\0<=i/\i<len/\ar=sz/\K (.one (.ptr id g (off+i.toNat*sz)))
   |_=>False
 |_=>False
def my(E:Nat->TI)(d:TypeDesc)(s:St)(x G:AV){K:AV->Prop}(_:Box K):Prop:=
 match d with
 |.array n e=>
   match G with
   |.one (.d (.int _ i))=>
     match x with
     |.one (.ptr id g off)=>s.gen id=g/\(s.obj id).isSome=T/\okD (E e).desc=T/\0<=i/\i<n/\K (.one (.ptr id g (off+i.toNat*(E e).size)))
     |_=>False
   |_=>False
 |_=>False
def oq(d:TypeDesc):Bool:=match d with|.array _ _=>T|_=>F
def uY(x G:AV){K:AV->Prop}(_:Box K):Prop:=
 match G with
 |.one (.d (.int _ i))=>
   match x with
   |.one (.d (.str s))=>0<=i/\bX (s[i.toNat]?) (bx λc=>K (iv .u8 c.toNat))
   |_=>False
 |_=>False
def nZ(op:BinOp)(k:IntKind)(x y:Int){K:AV->Prop}(_:Box K):Prop:=
 match op with
 |.add=>K (iv k (k.wrap (x+y)))
 |.sub=>K (iv k (k.wrap (x-y)))
 |.mul=>K (iv k (k.wrap (x*y)))
 |.quo=>y≠0/\K (iv k (k.wrap (x.tdiv y)))
 |.rem=>y≠0/\K (iv k (x.tmod y))
 |.eql=>K (bv (decide (x=y)))
 |.neq=>K (bv (decide (x≠y)))
 |.lss=>K (bv (decide (x<y)))
 |.leq=>K (bv (decide (x<=y)))
 |.gtr=>K (bv (decide (y<x)))
 |.geq=>K (bv (decide (y<=x)))
 |.and=>K (iv k (k.wrap (BitVec.ofInt k.bits x &&&BitVec.ofInt k.bits y).toNat))
 |.or=>K (iv k (k.wrap (BitVec.ofInt k.bits x |||BitVec.ofInt k.bits y).toNat))
 |.xor=>K (iv k (k.wrap (BitVec.ofInt k.bits x ^^^ BitVec.ofInt k.bits y).toNat))
 |.andNot=>K (iv k (k.wrap (BitVec.ofInt k.bits x &&& ~~~ BitVec.ofInt k.bits y).toNat))
 |.shl=>0<=y/\K (iv k (k.wrap (x*2^(min y.toNat k.bits))))
 |.shr=>0<=y/\K (iv k (x.fdiv (2^(min y.toNat k.bits))))
def Fw(op:BinOp)(x y:List UInt8){K:AV->Prop}(_:Box K):Prop:=
 match op with
 |.add=>((z x+z y:Nat):Int)<=9223372036854775807/\K (sv (x++y))
 |.eql=>K (bv (decide (x=y)))
 |.neq=>K (bv (decide (x≠y)))
 |.lss=>K (bv (Op.bytesLess x y))
 |.leq=>K (bv (Op.bytesLess x y||decide (x=y)))
 |.gtr=>K (bv (!(Op.bytesLess x y||decide (x=y))))
 |.geq=>K (bv (!Op.bytesLess x y))
 |_=>False
def sameKind(op:BinOp)(k e:IntKind):Prop:=
 match op with
 |.shl|.shr=>True
 |_=>k=e
def Qd(d:TypeDesc)(op:BinOp)(x y:Bool){K:AV->Prop}(_:Box K):Prop:=
 match d,op with
 |.bool,.eql=>K (bv (decide (x=y)))
 |.bool,.neq=>K (bv (decide (x≠y)))
 |_,_=>False
def xp(k:IntKind):List C->Option (List Int)
 |[]=>S []
 |.d (.int e n)::r=>if e=k then(xp k r).map (n :: ·)else N
 |_=>N
def Lt(B:TI)(n:Nat)(xs Q:List C){K:Bool->Prop}(_:Box K):Prop:=
 match B.desc with
 |.int k=>B.size=1/\bX (xp k xs) (bx λa=>bX (xp k Q) (bx λb=>(z a=n/\z b=n)/\K (decide (a=b))))
 |_=>False
def TP(E:Nat->TI)(d:TypeDesc)(op:BinOp)(xs Q:List C){K:AV->Prop}(_:Box K):Prop:=
 match d,op with
 |.array n e,.eql=>Lt (E e) n xs Q (bx λb=>K (bv b))
 |.array n e,.neq=>Lt (E e) n xs Q (bx λb=>K (bv (!b)))
 |_,_=>False
def Cc(E:Nat->TI)(d:TypeDesc)(op:BinOp)(x y:AV){K:AV->Prop}(k:Box K):Prop:=
 match x,y with
 |.one (.d (.int e a)),.one (.d (.int h b))=>sameKind op e h/\nZ op e a b k
 |.one (.d (.str a)),.one (.d (.str b))=>Fw op a b k
 |.one (.d (.bool a)),.one (.d (.bool b))=>Qd d op a b k
 |.agg xs,.agg Q=>TP E d op xs Q k
 |_,_=>False
def unA(op:UnOp)(x:AV){K:AV->Prop}(_:Box K):Prop:=
 match op,x with
 |.not,.one (.d (.bool b))=>K (bv (!b))
 |.neg,.one (.d (.int k n))=>K (iv k (k.wrap (0-n)))
 |_,_=>False
def contents(s:St)(str sl:Bool)(sz:Nat)(x:AV){K:Nat->List C->Prop}(_:Box K):Prop:=
 match x with
 |.one (.d .nsl)=>sl=T/\K 0 []
 |.one (.d (.sl es))=>sl=T/\(∀e∈es,z e=sz)/\K (z es) (es.flatten.map .d)
 |.one (.d (.str bs))=>str=T/\sz=1/\K (z bs) (bs.map λb=>.d (zC b))
 |.one (.osl id g ar off len)=>sl=T/\s.gen id=g/\ar=sz/\bX (s.obj id) (bx λh=>off+len*sz<=z h/\K len ((h.drop off).take (len*sz)))
 |_=>False
def u8s:List C->Option (List Int)
 |[]=>S []
 |.d (.int .u8 n)::r=>(u8s r).map (n :: ·)
 |_=>N
def Cd:TypeDesc->Bool
 |.int .u8=>T
 |_=>F
def tO(s:St)(el:TypeDesc)(i dst:TypeDesc)(x:AV){K:AV->Prop}(_:Box K):Prop:=
 match i,dst,x with
 |a,.int k,.one (.d (.int _ n))=>okD a=T/\K (iv k (k.wrap n))
 |.string,.string,.one (.d (.str b))=>K (sv b)
 |.slice _,.string,y=>Cd el=T/\contents s F T 1 y (bx λ_ e=>bX (u8s e) (bx λo=>K (sv (o.map λn=>UInt8.ofNat n.toNat))))
 |_,_,_=>False
def Ce(n bytes:Nat):Prop:=0<bytes/\(2*n+1024)*bytes<=281474976710656
def na(e:Nat)(B:TI)(str sl:Bool)(i d:Nat)(s:St)(x y:AV){K:St->Prop}(_:Box K):Prop:=
 match x with
 |.one (.d .nsl)=>contents s str sl B.size y (bx λn j=>Ce n B.bytes/\K ((s.newC (e+1) i j).put (S d) (.one (.osl i (nxC (e+1) (s.gen i)) B.size 0 n))))
 | .one (.osl id g sz off len)=>s.gen id=g/\sz=B.size/\bX (s.obj id) (bx λh=>off+len*sz<=z h/\
    contents s str sl B.size y (bx λn j=>Ce (len+n) B.bytes/\
     K ((s.newC (apC e (s.gen id) off) id ((h.drop off).take (len*sz)++j)).put (S d) (.one (.osl id (nxC (apC e (s.gen id) off) (s.gen id)) B.size 0 (len+n))))))
 |_=>False
def zE(s:St)(str sl:Bool)(x:AV){K:AV->Prop}(_:Box K):Prop:=
 match x with
 |.one (.d .nsl)=>sl=T/\K (iv .i64 0)
 |.one (.d (.sl es))=>sl=T/\K (iv .i64 (z es))
 |.one (.d (.str bs))=>str=T/\K (iv .i64 (z bs))
 |.one (.osl id g _ _ len)=>sl=T/\s.gen id=g/\(s.obj id).isSome=T/\K (iv .i64 len)
 |.one (.lsl n)=>sl=T/\K (iv .i64 n)
 |_=>False
def jT(o:Option AV)(B:Nat){K:Nat->Prop}(_:Box K):Prop:=
 match o with
 |none=>K B
 |some (.one (.d (.int _ n)))=>0<=n/\K n.toNat
 |_=>False
def qE(s:St)(str sl:Bool)(sz:Nat)(x:AV)(H e:Option AV){K:AV->Prop}(_:Box K):Prop:=
 match x with
 |.one (.d (.str bs))=>str=T/\jT e (z bs) (bx λh=>jT H 0 (bx λl=>l<=h/\h<=z bs/\K (sv ((bs.take h).drop l))))
 |.one (.d (.sl es))=>sl=T/\jT e (z es) (bx λh=>jT H 0 (bx λl=>l<=h/\h<=z es/\(∀x∈es,z x=sz)/\K (.one (.d (.sl ((es.take h).drop l))))))
 |.one (.d .nsl)=>sl=T/\jT e 0 (bx λh=>jT H 0 (bx λl=>l=0/\h=0/\K (.one (.d .nsl))))
 |.one (.osl id g ar off len)=>sl=T/\s.gen id=g/\(s.obj id).isSome=T/\jT e len (bx λh=>jT H 0 (bx λl=>l<=h/\h<=len/\ar=sz/\K (.one (.osl id g sz (off+l*sz) (h-l)))))
 |_=>False
def Lu(o:Option (List C))(n:Nat):Prop:=∃l,o=S l/\n<=z l
def mz(E:Nat->TI)(d:TypeDesc)(s:St)(x:AV)(H i:Option AV){K:AV->Prop}(_:Box K):Prop:=
 match d with
 |.array n e=>
   match x with
   |.one (.ptr id g off)=>
     match H with
     |none=>s.gen id=g/\okD (E e).desc=T/\Lu (s.obj id) (off+n*(E e).size)/\jT i n (bx λh=>h<=n/\K (.one (.osl id g (E e).size off h)))
     |_=>False
   |_=>False
 |_=>False
def Cg(sz:Nat):(k:Nat)->(ps:List (Nat×AV))->{K:List C->Prop}->Box K->Prop
 |_,[],K,_=>K []
 |k,p::r,K,_=>p.1=k/\bX (cellsOf p.2) (bx λe=>z e=sz/\Cg sz (k+1) r (bx λrest=>K (e++rest)))
def kv(e sz i d n:Nat)(s:St)(ps:List (Nat×AV)){K:St->Prop}(_:Box K):Prop:=
 (z ps)=n/\n*sz<=16777216/\Cg sz 0 ps (bx λh=>K ((s.newC (e+1) i h).put (S d) (.one (.osl i (nxC (e+1) (s.gen i)) sz 0 n))))
def kS(d:TypeDesc)(f:Nat):Option Field:=
 match d with
 |.struct fs=>fs[f]?
 |_=>N
def ja(E:Nat->TI)(t f:Nat)(s:St)(x:AV){K:AV->Prop}(_:Box K):Prop:=
 match x with
 |.one (.ptr id g off)=>s.gen id=g/\(s.obj id).isSome=T/\bX (kS (E t).desc f) (bx λfl=>(okD (E fl.type).desc=T/\(E fl.type).size≠0)/\K (.one (.ptr id g (off+fl.offset))))
 |.one (.d (.iptr cs))=>bX (kS (E t).desc f) (bx λfl=>(okD (E fl.type).desc=T/\(E fl.type).size≠0)/\K (.one (.d (.iptr (cs.drop fl.offset)))))
 |_=>False
def sC(E:Nat->TI)(t f:Nat)(x:AV){K:AV->Prop}(k:Box K):Prop:=
 match x with
 |.agg cs=>bX (kS (E t).desc f) (bx λfl=>okD (E fl.type).desc=T/\zD (E fl.type) cs fl.offset k)
 |_=>False
def uZ(pl:Nat->Option (Nat×Nat)):(cells:List C)->(ps:List (Nat×AV))->{K:List C->Prop}->Box K->Prop
 |cells,[],K,_=>K cells
 |cells,p::r,_,k=>bX (pl p.1) (bx λq=>bX (cellsOf p.2) (bx λe=>z e=q.2/\q.1+q.2<=z cells/\uZ pl (setAt cells q.1 e) r k))
def placeOf(E:Nat->TI)(d:TypeDesc)(i:Nat):Option (Nat×Nat):=
 match d with
 |.array _ e=>S (i*(E e).size,(E e).size)
 |d=>(kS d i).bind λfl=>bif okD (E fl.type).desc then S (fl.offset,(E fl.type).size)else N
def gU(E:Nat->TI)(t:Nat):Bool:=match (E t).desc with|.struct fs=>fs.toList.all λf=>okD (E f.type).desc|.array _ e=>okD (E e).desc|_=>F
def fS(E:Nat->TI)(t:Nat)(ps:List (Nat×AV)){K:AV->Prop}(_:Box K):Prop:=
 gU E t=T/\uZ (placeOf E (E t).desc) ((E t).zero.map .d) ps (bx λe=>K (.agg e))
def Lv(t i d:Nat)(s:St)(x:AV){K:St->Prop}(_:Box K):Prop:=
 bX (cellsOf x) (bx λe=>K ((s.newC (t+1) i e).put (S d) (.one (.ptr i (nxC (t+1) (s.gen i)) 0))))
def yw(t:Nat)(B:TI)(i d:Nat)(s:St){K:St->Prop}(_:Box K):Prop:=
 okD B.desc=T/\K ((s.newC (t+1) i (B.zero.map .d)).put (S d) (.one (.ptr i (nxC (t+1) (s.gen i)) 0)))
def jU(s:St)(x:AV){K:AV->Prop}(_:Box K):Prop:=
 match x with
 |.one (.ptr id g off)=>s.gen id=g/\(s.obj id).isSome=T/\K (.one (.ptr id g off))
 |.one (.d (.iptr cs))=>K (.one (.d (.iptr cs)))
 |_=>False
def ou(x:AV)(i:Nat){K:AV->Prop}(k:Box K):Prop:=
 match x with
 |.tup ts=>bX (ts[i]?) k
 |_=>False
def mxA(e:Bool)(x y:AV){K:AV->Prop}(_:Box K):Prop:=
 match x,y with
 |.one (.d (.int k a)),.one (.d (.int _ b))=>K (iv k (if e then max a b else min a b))
 |_,_=>False
def jV(e:Nat)(B:TI)(i d:Nat)(s:St)(l c:AV){K:St->Prop}(_:Box K):Prop:=
 match l,c with
 |.one (.d (.int _ n)),.one (.d (.int _ m))=>0<=n/\n<=m/\m<=4611686018427387904/\m*B.bytes<=281474976710656/\
    K ((s.newC (e+1) i (List.replicate m.toNat (B.zero.map C.d)).flatten).put (S d) (.one (.osl i (nxC (e+1) (s.gen i)) B.size 0 n.toNat)))
 |_,_=>False
def dZ:Nat->TypeDesc
 |0=>.int .i8|1=>.int .i16|2=>.int .i32|3=>.int .i64|4=>.int .u8|5=>.int .u16|6=>.int .u32|7=>.int .u64
 |8=>.string
 |9=>.bool
 |_=>.invalid
def nb:TypeDesc->Nat
 |.int .i8=>0|.int .i16=>1|.int .i32=>2|.int .i64=>3|.int .u8=>4|.int .u16=>5|.int .u32=>6|.int .u64=>7
 |.string=>8
 |_=>9
def iK:TypeDesc->D->Bool
 |.int k,.int e _=>e=k
 |.string,.str _=>T
 |.bool,.bool _=>T
 |_,_=>F
def kO:D->D->Bool
 |.int k n,.int e j=>k=e&&n=j
 |.str s,.str W=>s=W
 |.bool b,.bool X=>b=X
 |_,_=>F
def mget:List C->D->Option C
 |.d e::c::r,k=>if kO e k then S c else mget r k
 |_,_=>N
def mset:List C->D->C->List C
 |.d e::c::r,k,x=>if kO e k then .d e::x::r else .d e::c::mset r k x
 |_,k,x=>[.d k,x]
def zF(agg:Bool)(n:Nat):Nat:=match agg with|true=>200+n|false=>n
def mA(E:Nat->TI)(t i d:Nat)(s:St){K:St->Prop}(_:Box K):Prop:=
 match (E t).desc with
 |.map n H=>dZ (nb (E n).desc)=(E n).desc/\K ((s.newC 0 i []).put (S d) (.one (.mp i (nxC 0 (s.gen i)) (zF (ed (E H).desc) (nb (E n).desc)))))
 |_=>False
def tP(ok:Bool)(X:D)(c:Option C):AV:=if ok then .tup [.one (c.getD (.d X)),bv c.isSome]else .one (c.getD (.d X))
def zG(B:TI){K:D->Prop}(_:Box K):Prop:=
 match B.zero with
 |[X]=>(okD B.desc=T/\ed B.desc=F)/\K X
 |_=>False
def zH(X:List D):Option C->List D
 |some (.d (.iptr ds))=>ds
 |_=>X
def nc(ok:Bool)(X:List D)(c:Option C):AV:=match ok with|true=>.tup [.agg ((zH X c).map .d),bv c.isSome]|false=>.agg ((zH X c).map .d)
def zI(B:TI){K:List D->Prop}(_:Box K):Prop:=(okD B.desc=T/\2<=z B.zero)/\K B.zero
def nd(E:Nat->TI)(t:Nat)(s:St)(x G:AV)(ok:Bool){K:AV->Prop}(_:Box K):Prop:=
 match (E t).desc,G with
 |.map n H,.one (.d k)=>(okD (E n).desc=T/\iK (E n).desc k=T)/\
   match ed (E H).desc with
   | false=>zG (E H) (bx λX=>
     match x with
     |.one (.mp id g h)=>s.gen id=g/\dZ h=(E n).desc/\bX (s.obj id) (bx λe=>K (tP ok X (mget e k)))
     |.one (.d .nilm)=>K (tP ok X N)
     | _=>False)
   | true=>zI (E H) (bx λX=>
     match x with
     |.one (.mp id g h)=>s.gen id=g/\(200<=h/\dZ (h-200)=(E n).desc)/\bX (s.obj id) (bx λe=>K (nc ok X (mget e k)))
     |.one (.d .nilm)=>K (nc ok X N)
     | _=>False)
 |_,_=>False
def datas:List C->Option (List D)
 |[]=>S []
 |.d x::r=>(datas r).map (x :: ·)
 |_=>N
def eK(E:Nat->TI)(t:Nat)(s:St)(m G x:AV){K:St->Prop}(_:Box K):Prop:=
 match (E t).desc,G,m,x with
 |.map n _,.one (.d k),.one (.mp id g h),.one c=>(okD (E n).desc=T/\iK (E n).desc k=T)/\s.gen id=g/\dZ h=(E n).desc/\bX (s.obj id) (bx λe=>K {s with obj:=upd s.obj id (S (mset e k c))})
 |.map n _,.one (.d k),.one (.mp id g h),.agg cs=>(okD (E n).desc=T/\iK (E n).desc k=T)/\s.gen id=g/\(200<=h/\dZ (h-200)=(E n).desc)/\bX (datas cs) (bx λds=>bX (s.obj id) (bx λe=>K {s with obj:=upd s.obj id (S (mset e k (.d (.iptr ds))))}))
 |_,_,_,_=>False
def Hj:AV->Option PC
 |.one (.d x)=>S (.d x)
 |.one (.ptr id g off)=>S (.ptr id g off)
 |_=>N
def ow:List AV->Option (List PC)
 |[]=>S []
 |x::xs=>(Hj x).bind λp=>(ow xs).bind λps=>S (p::ps)
def jW(f:FuncId)(first q:List AV){K:AV->Prop}(_:Box K):Prop:=
 match first with
 |[]=>f<1000000/\bX (ow q) (bx λl=>K (.one (.clo f l)))
 |x::r=>q=[]/\bX (ow (x::r)) (bx λl=>K (.one (.clo (f+1000000) l)))
def ba(E:Nat->TI)(t:Nat):Nat:=
 match (E t).desc with
 |.slice e=>e
 |_=>0
def bh(E:Nat->TI)(t:Nat):TI:=
 match (E t).desc with
 |.slice e=>E e
 |_=>default
def va(s:St)(c:Call)(i:Nat):AV:=s.ev (c.args.getD i (.const .nilFunc))
structure Sp where
 op:Oper->St->(St->Prop)->Prop
 code:Code->St->(Exit->St->Prop)->Prop
 vs:St->St->Prop
 base:Nat
def bC(ar:Sp)(o:Oper)(s:St){K:St->Prop}(_:Box K):Prop:=∃R,ar.op o s R/\∀W,R W->K W
def OU(ar:Sp)(c:Code)(s:St){Q:Exit->St->Prop}(_:Box Q):Prop:=∃R,ar.code c s R/\∀e W,R e W->Q e W
def isSlice(d:TypeDesc):Bool:=match d with|.slice _=>T|_=>F
def eL(E:Nat->TI):Op->Bool
 |.indexAddr _ x _=>match x with|.global _=>F|_=>T
 |.move _|.assign _|.pick .. | .load .. | .index .. | .binOp .. | .unOp .. | .slice _ _ _ _ N|.fieldAddr .. | .field .. | .build .. | .nilCheck _|.extract .. | .lookup .. | .makeFunc (.func _) _ _=>T
 |.convert _ d _=>!isSlice (E d).desc
 |.call c=>match c.callee with|.builtin .len|.builtin .max|.builtin .min=>T|_=>F
 |_=>F
def oz(E:Nat->TI)(ops:Array Oper):Bool:=
 (ops.toList.all (eL E ·.op)&&Region.lexB .any ops) ||
 [1,2,3,4].any λk=>(ops.toList.take (ops.size-k)).all (eL E ·.op)&&Region.lexTailB .any ops (ops.size-k)
def isStr(d:TypeDesc):Bool:=match d with|.string=>T|_=>F
def dI(E:Nat->TI)(t:Nat):Bool:=isSlice (E t).desc&&okD (bh E t).desc
def ng(E:Nat->TI)(i d base:Nat)(dst:Option Nat)(s:St)(x:AV){K:St->Prop}(_:Box K):Prop:=
 match dst,x with
 |some l,.one (.d (.str bs))=>isStr (E i).desc=T/\Cd (bh E d).desc=T/\K ((s.newC (ba E d+1) (base+l) (bs.map λb=>.d (zC b))).put (S l) (.one (.osl (base+l) (nxC (ba E d+1) (s.gen (base+l))) 1 0 (z bs))))
 |_,_=>False
def TQ(ar:Sp)(E:Nat->TI)(o:Oper)(c:Call)(s:St){K:St->Prop}(k:Box K):Prop:=
 match c.callee,o.dst with
 |.builtin .len,dst=>(c.args.size=1/\c.argTypes.size=1)/\zE s (isStr (E (c.argTypes.getD 0 0)).desc) (dI E (c.argTypes.getD 0 0)) (va s c 0) (bx λv=>K (s.put dst v))
 |.builtin .max,dst=>c.args.size=2/\mxA T (va s c 0) (va s c 1) (bx λv=>K (s.put dst v))
 |.builtin .min,dst=>c.args.size=2/\mxA F (va s c 0) (va s c 1) (bx λv=>K (s.put dst v))
 |.builtin .append,S d=>(c.args.size=2/\c.argTypes.size=2)/\dI E (c.argTypes.getD 0 0)=T/\na (ba E (c.argTypes.getD 0 0)) (bh E (c.argTypes.getD 0 0)) (isStr (E (c.argTypes.getD 1 0)).desc) (dI E (c.argTypes.getD 1 0)) (ar.base+d) d s (va s c 0) (va s c 1) k
 |_,_=>bC ar o s k
def opA(ar:Sp)(E:Nat->TI)(o:Oper)(s:St){K:St->Prop}(k:Box K):Prop:=
 match o.op,o.dst with
 |.move x,dst=>K (s.put dst (s.ev x))
 |.assign x,dst=>K (s.put dst (s.ev x))
 |.pick c a b,dst=>qD (s.ev c) (bx λt=>K (s.put dst (if t then s.ev a else s.ev b)))
 |.load t a,dst=>uX (E t) s (s.ev a) (bx λv=>K (s.put dst v))
 |.store t a x,dst=>sB (E t) s (s.ev a) (s.ev x) (bx λW=>K (W.put dst uv))
 |.indexAddr t x G,dst=>match x with
   |.global _=>bC ar o s k
   |x=>bif oq (E t).desc then my E (E t).desc s (s.ev x) (s.ev G) (bx λv=>K (s.put dst v))else dI E t=T/\iZ s (bh E t).size (s.ev x) (s.ev G) (bx λv=>K (s.put dst v))
 |.index t x G,dst=>isStr (E t).desc=T/\uY (s.ev x) (s.ev G) (bx λv=>K (s.put dst v))
 |.binOp op t x y _,dst=>Cc E (E t).desc op (s.ev x) (s.ev y) (bx λv=>K (s.put dst v))
 |.unOp op _ x,dst=>unA op (s.ev x) (bx λv=>K (s.put dst v))
 |.convert src d x,dst=>bif isSlice (E d).desc then ng E src d ar.base dst s (s.ev x) k else tO s (bh E src).desc (E src).desc (E d).desc (s.ev x) (bx λv=>K (s.put dst v))
 |.slice t x H e N,dst=>bif oq (E t).desc then mz E (E t).desc s (s.ev x) (H.map s.ev) (e.map s.ev) (bx λv=>K (s.put dst v))else qE s (isStr (E t).desc) (dI E t) (bh E t).size (s.ev x) (H.map s.ev) (e.map s.ev) (bx λv=>K (s.put dst v))
 |.buildSlice t n ps,S d=>dI E t=T/\kv (ba E t) (bh E t).size (ar.base+d) d n s (ps.toList.map λp=>(p.1,s.ev p.2)) k
 |.makeSlice t l c,S d=>dI E t=T/\jV (ba E t) (bh E t) (ar.base+d) d s (s.ev l) (s.ev c) k
 |.fieldAddr t x f,dst=>ja E t f s (s.ev x) (bx λv=>K (s.put dst v))
 |.field t x f,dst=>sC E t f (s.ev x) (bx λv=>K (s.put dst v))
 |.build t ps,dst=>fS E t (ps.toList.map λp=>(p.1,s.ev p.2)) (bx λv=>K (s.put dst v))
 |.nilCheck x,dst=>jU s (s.ev x) (bx λv=>K (s.put dst v))
 |.extract x i,dst=>ou (s.ev x) i (bx λv=>K (s.put dst v))
 |.box t x,S d=>Lv t (ar.base+d) d s (s.ev x) k
 |.alloc t,S d=>yw t (E t) (ar.base+d) d s k
 |.makeMap t N,S d=>mA E t (ar.base+d) d s k
 |.lookup t x G ok,dst=>nd E t s (s.ev x) (s.ev G) ok (bx λv=>K (s.put dst v))
 |.mapUpdate t m G x,dst=>eK E t s (s.ev m) (s.ev G) (s.ev x) (bx λW=>K (W.put dst uv))
 |.makeFunc (.func f) first q,dst=>jW f (first.toList.map s.ev) (q.toList.map s.ev) (bx λv=>K (s.put dst v))
 |.call c,_=>TQ ar E o c s k
 |_,_=>bC ar o s k
def wpO(ar:Sp)(E:Nat->TI)(ops:Array Oper):List Oper->(s:St)->{K:St->Prop}->(k:Box K)->Prop
 |[],s,K,_=>K s
 |o::rest,s,K,k=>
   match o.guard with
   |none=>opA ar E o s (bx λW=>wpO ar E ops rest W k)
   |some (j,want)=>
     bX ((ops[j]?).bind (·.dst)) (bx λd=>
      mZ (s.f d) (bx λb=>if b=want then opA ar E o {s with f:=upd s.f d (bv b)} (bx λW=>wpO ar E ops rest W k)
       else wpO ar E ops rest ({s with f:=upd s.f d (bv b)}.put o.dst uv) k) (bx (wpO ar E ops rest (s.put o.dst uv) k)))
def jD{next:St->Prop}(_:Box next){Q:Exit->St->Prop}(_:Box Q):Exit->St->Prop
 |.normal,s=>next s
 |e,s=>Q e s
def jE(id:Nat){Q:Exit->St->Prop}(_:Box Q):Exit->St->Prop
 |.exit L,s=>if L=id then Q .normal s else Q (.exit L) s
 |e,s=>Q e s
def oF(ar:Sp){B:(Exit->St->Prop)->St->Prop}(_:Box B){Q:Exit->St->Prop}(q:Box Q)(s:St):Prop:=
 ∃I:Nat->St->Prop,(∃n d,ar.vs s d/\I n d)/\∀n s,I n s->B (jD (bx λW=>∃j d,j<n/\ar.vs W d/\I j d) q) s
def rq{Q:Exit->St->Prop}(_:Box Q):Exit->St->Prop
 |.goto _,_=>False
 |e,s=>Q e s
def ly(ar:Sp)(E:Nat->TI)(id:Nat)(ops:Array Oper)(s:St){Q:Exit->St->Prop}(q:Box Q):Prop:=
 (oz E ops=T/\wpO ar E ops ops.toList s (bx λW=>Q .normal W))\/OU ar (.region id ops T) s q
def wpC(ar:Sp)(E:Nat->TI):Code->{Q:Exit->St->Prop}->(q:Box Q)->St->Prop
 |.skip,Q,_,s=>Q .normal s
 |.label _,Q,_,s=>Q .normal s
 |.region id ops b,Q,q,s=>match b with|true=>ly ar E id ops s q|false=>wpO ar E ops ops.toList s (bx λW=>Q .normal W)
 |.seq x y,Q,q,s=>wpC ar E x (bx (jD (bx λW=>wpC ar E y q W) q)) s
 |.cond c x y,Q,q,s=>qD (s.ev c) (bx λb=>if b then wpC ar E x q s else wpC ar E y q s)
 |.block id c,Q,q,s=>wpC ar E c (bx (jE id q)) s
 |.loop c,Q,q,s=>oF ar (bx λQ s=>wpC ar E c (bx Q) s) q s
 |.exit id,Q,_,s=>Q (.exit id) s
 |.ret,Q,_,s=>Q .ret s
 |.scope c,_,q,s=>wpC ar E c (bx (rq q)) s
 |.goto l,Q,_,s=>Q (.goto l) s
 |c,_,q,s=>OU ar c s q
variable{s:St}{K:St->Prop}{ty:TypeId}{ps:String}{w:Array Edge}{gd:Option (Nat×Bool)}{dst:Option Tmp}{x:Operand}{t:TypeId}{n:Nat}{d:Tmp}{Q:Exit->St->Prop}{a:Array Operand}{ts:Array TypeId}{c:Code}{G:Operand}{p:Array (Nat×Operand)}{next:St->Prop}{l:List Oper}{k:Box K}{q:Box Q}{b:Box next}
section equations
variable{ar:Sp}{E:Nat->TI}
@[go_sem]def OV{K:Bool->Prop}(k:Box K):kI T k=K T:=by simp[kI]
@[go_sem]def Lx{K:Bool->Prop}(k:Box K):kI F k=K F:=by simp[kI]
@[go_sem]def Ll(p:Prop)[Decidable p]{K:Bool->Prop}(k:Box K):kI (decide p) k=((p->K T)/\(¬p->K F)):=by simp[kI]
@[go_sem]def Qe(b:Bool){K:Bool->Prop}(k:Box K):kI (!b) k=kI b (bx λt=>K (!t)):=by cases b<;>simp[kI]
@[go_sem]def OW:ed .bool=F/\okD .bool=T/\(∀(kd:IntKind),ed (.int kd)=F)/\(∀(kd:IntKind),isSlice (.int kd)=F)/\(∀(kd:IntKind),okD (.int kd)=T)/\ed .string=F/\isSlice .string=F/\oq .string=F/\okD .string=T/\(∀(e:TypeId),ed (.pointer e)=F)/\(∀(e:TypeId),okD (.pointer e)=T)/\(∀(e:TypeId),ed (.slice e)=F)/\(∀(e:TypeId),oq (.slice e)=F)/\(∀(e:TypeId),okD (.slice e)=T)/\(∀(e:TypeId),isStr (.slice e)=F)/\(∀(fs:Array Field),okD (.struct fs)=T)/\Cd (.int .u8)=T/\u8s []=S []/\nb (.int .i64)=3/\nb .string=8/\dZ 3=.int .i64/\dZ 8=.string/\(∀(X:List D),zH X N=X)/\datas []=S []:=by and_intros<;>intros<;>exact B9 rfl rfl
@[go_sem]def SZ(n:Nat)(e:TypeId):okD (.array n e)=T:=B9 rfl rfl
@[go_sem]def Qh(a b:TypeId):ed (.map a b)=F:=B9 rfl rfl
@[go_sem]def Xd(a b:TypeId):okD (.map a b)=T:=B9 rfl rfl
@[go_sem]def Pb(ps rs:Array TypeId)(v:Bool):ed (.func ps rs v)=F:=B9 rfl rfl
@[go_sem]def TT(ps rs:Array TypeId)(v:Bool):okD (.func ps rs v)=T:=B9 rfl rfl
@[go_sem]def Ta(d:TypeDesc)(n b:Nat)(X:List D)(cells:List C)(off:Nat){K:AV->Prop}(k:Box K):zD ⟨d,n,b,X⟩ cells off k=(match ed d with|true=>off+n<=z cells/\K (.agg ((cells.drop off).take n))|false=>bX (cells[off]?) (bx λc=>K (.one c))):=B9 rfl rfl
@[go_sem]def Tb(d:TypeDesc)(n b:Nat)(X:List D)(cs:List D){K:AV->Prop}(k:Box K):Hi ⟨d,n,b,X⟩ cs k=(match ed d with|true=>n<=z cs/\K (.agg ((cs.take n).map .d))|false=>bX (cs[0]?) (bx λc=>K (.one (.d c)))):=B9 rfl rfl
@[go_sem]def LA(a b:IntKind):sameKind .add a b=(a=b):=B9 rfl rfl
@[go_sem]def LB(a b:IntKind):sameKind .sub a b=(a=b):=B9 rfl rfl
@[go_sem]def LC(a b:IntKind):sameKind .mul a b=(a=b):=B9 rfl rfl
@[go_sem]def LD(a b:IntKind):sameKind .quo a b=(a=b):=B9 rfl rfl
@[go_sem]def LF(a b:IntKind):sameKind .rem a b=(a=b):=B9 rfl rfl
@[go_sem]def LG(a b:IntKind):sameKind .eql a b=(a=b):=B9 rfl rfl
@[go_sem]def LH(a b:IntKind):sameKind .neq a b=(a=b):=B9 rfl rfl
@[go_sem]def LI(a b:IntKind):sameKind .lss a b=(a=b):=B9 rfl rfl
@[go_sem]def LJ(a b:IntKind):sameKind .leq a b=(a=b):=B9 rfl rfl
@[go_sem]def LK(a b:IntKind):sameKind .gtr a b=(a=b):=B9 rfl rfl
@[go_sem]def LL(a b:IntKind):sameKind .geq a b=(a=b):=B9 rfl rfl
@[go_sem]def LM(a b:IntKind):sameKind .and a b=(a=b):=B9 rfl rfl
@[go_sem]def Pc(a b:IntKind):sameKind .or a b=(a=b):=B9 rfl rfl
@[go_sem]def Tc(sz n i:Nat)(x:AV)(r:List (Nat×AV)){K:List C->Prop}(k:Box K):Cg sz n ((i,x)::r) k=(i=n/\bX (cellsOf x) (bx λcs=>z cs=sz/\Cg sz (n+1) r (bx λrest=>K (cs++rest)))):=B9 rfl rfl
@[go_sem]def Qj(pl:Nat->Option (Nat×Nat))(cells:List C)(i:Nat)(x:AV)(r:List (Nat×AV)){K:List C->Prop}(k:Box K):uZ pl cells ((i,x)::r) k=bX (pl i) (bx λq=>bX (cellsOf x) (bx λcs=>z cs=q.2/\q.1+q.2<=z cells/\uZ pl (setAt cells q.1 cs) r k)):=B9 rfl rfl
@[go_sem]def Qk(fs:Array Field)(i:Nat):placeOf E (.struct fs) i=(kS (.struct fs) i).bind λfl=>bif okD (E fl.type).desc then S (fl.offset,(E fl.type).size)else N:=B9 rfl rfl
@[go_sem]def Xg(k1 e:IntKind)(a b:Int){K:AV->Prop}(k:Box K):mxA T (.one (.d (.int k1 a))) (.one (.d (.int e b))) k=K (iv k1 (max a b)):=B9 rfl rfl
@[go_sem]def TU(d:TypeDesc)(a b:Nat)(X:List D){K:List D->Prop}(k:Box K):zI ⟨d,a,b,X⟩ k=((okD d=T/\2<=z X)/\K X):=B9 rfl rfl
@[go_sem]def TV(d:TypeDesc)(a b:Nat)(X:D){K:D->Prop}(k:Box K):zG ⟨d,a,b,[X]⟩ k=((okD d=T/\ed d=F)/\K X):=B9 rfl rfl
@[go_sem]def Ql(t:Nat)(s:St)(x:AV)(k:D)(ok:Bool){K:AV->Prop}(b:Box K):nd E t s x (.one (.d k)) ok b=(match (E t).desc with
 |.map n H=>(okD (E n).desc=T/\iK (E n).desc k=T)/\
   match ed (E H).desc with
   | false=>zG (E H) (bx λX=>
     match x with
     |.one (.mp id g kd)=>s.gen id=g/\dZ kd=(E n).desc/\bX (s.obj id) (bx λcells=>K (tP ok X (mget cells k)))
     |.one (.d .nilm)=>K (tP ok X N)
     | _=>False)
   | true=>zI (E H) (bx λX=>
     match x with
     |.one (.mp id g kd)=>s.gen id=g/\(200<=kd/\dZ (kd-200)=(E n).desc)/\bX (s.obj id) (bx λcells=>K (nc ok X (mget cells k)))
     |.one (.d .nilm)=>K (nc ok X N)
     | _=>False)
 | _=>False):=by unfold nd;cases (E t).desc<;>rfl
@[go_sem]def Hm(t:Nat)(s:St)(id g kd:Nat)(k:D)(cs:List C)(b:Box K):eK E t s (.one (.mp id g kd)) (.one (.d k)) (.agg cs) b=(match (E t).desc with
 |.map n _=>(okD (E n).desc=T/\iK (E n).desc k=T)/\s.gen id=g/\(200<=kd/\dZ (kd-200)=(E n).desc)/\bX (datas cs) (bx λds=>bX (s.obj id) (bx λcells=>K {s with obj:=upd s.obj id (S (mset cells k (.d (.iptr ds))))}))
 | _=>False):=by unfold eK;cases (E t).desc<;>rfl
@[go_sem]def Lo(t:Nat)(s:St)(id g kd:Nat)(k:D)(c:C)(b:Box K):eK E t s (.one (.mp id g kd)) (.one (.d k)) (.one c) b=(match (E t).desc with
 |.map n _=>(okD (E n).desc=T/\iK (E n).desc k=T)/\s.gen id=g/\dZ kd=(E n).desc/\bX (s.obj id) (bx λcells=>K {s with obj:=upd s.obj id (S (mset cells k c))})
 | _=>False):=by unfold eK;cases (E t).desc<;>rfl
@[go_sem]def Ti:ow []=S []:=B9 rfl rfl
@[go_sem]def Hn(f:FuncId)(x:AV)(r:List AV){K:AV->Prop}(k:Box K):jW f (x::r) [] k=bX (ow (x::r)) (bx λl=>K (.one (.clo (f+1000000) l))):=propext ⟨λh=>h.2,λh=>⟨rfl,h⟩⟩
@[go_sem]def TX:opA ar E ⟨dst,.move x,ty,ps,w,gd⟩ s k=K (s.put dst (s.ev x))/\opA ar E ⟨dst,.assign x,ty,ps,w,gd⟩ s k=K (s.put dst (s.ev x))/\(opA ar E ⟨dst,.nilCheck x,ty,ps,w,gd⟩ s k=jU s (s.ev x) (bx λv=>K (s.put dst v)))/\(∀{i:Nat},opA ar E ⟨dst,.extract x i,ty,ps,w,gd⟩ s k=ou (s.ev x) i (bx λv=>K (s.put dst v))):=by and_intros<;>intros<;>exact B9 rfl rfl
@[go_sem]def TY{c a b:Operand}:opA ar E ⟨dst,.pick c a b,ty,ps,w,gd⟩ s k=qD (s.ev c) (bx λt=>K (s.put dst (if t then s.ev a else s.ev b))):=B9 rfl rfl
@[go_sem]def TZ{a:Operand}:opA ar E ⟨dst,.load t a,ty,ps,w,gd⟩ s k=uX (E t) s (s.ev a) (bx λv=>K (s.put dst v)):=B9 rfl rfl
@[go_sem]def Tj{a x:Operand}:opA ar E ⟨dst,.store t a x,ty,ps,w,gd⟩ s k=sB (E t) s (s.ev a) (s.ev x) (bx λW=>K (W.put dst uv)):=B9 rfl rfl
@[go_sem]def Lp{x:Nat}:opA ar E ⟨dst,.indexAddr t (.tmp x) G,ty,ps,w,gd⟩ s k=(bif oq (E t).desc then my E (E t).desc s (s.f x) (s.ev G) (bx λv=>K (s.put dst v))else dI E t=T/\iZ s (bh E t).size (s.f x) (s.ev G) (bx λv=>K (s.put dst v))):=B9 rfl rfl
@[go_sem]def Ua{t g:Nat}:opA ar E ⟨dst,.indexAddr t (.global g) G,ty,ps,w,gd⟩ s k=bC ar ⟨dst,.indexAddr t (.global g) G,ty,ps,w,gd⟩ s k:=B9 rfl rfl
@[go_sem]def Tl{x G:Operand}:opA ar E ⟨dst,.index t x G,ty,ps,w,gd⟩ s k=(isStr (E t).desc=T/\uY (s.ev x) (s.ev G) (bx λv=>K (s.put dst v))):=B9 rfl rfl
@[go_sem]def Tm{o:BinOp}{t u:TypeId}{x y:Operand}:opA ar E ⟨dst,.binOp o t x y u,ty,ps,w,gd⟩ s k=Cc E (E t).desc o (s.ev x) (s.ev y) (bx λv=>K (s.put dst v)):=B9 rfl rfl
@[go_sem]def Ub:(∀{o:UnOp},opA ar E ⟨dst,.unOp o t x,ty,ps,w,gd⟩ s k=unA o (s.ev x) (bx λv=>K (s.put dst v)))/\(∀{H e:Option Operand},opA ar E ⟨dst,.slice t x H e N,ty,ps,w,gd⟩ s k=(bif oq (E t).desc then mz E (E t).desc s (s.ev x) (H.map s.ev) (e.map s.ev) (bx λv=>K (s.put dst v))else qE s (isStr (E t).desc) (dI E t) (bh E t).size (s.ev x) (H.map s.ev) (e.map s.ev) (bx λv=>K (s.put dst v)))):=by and_intros<;>intros<;>exact B9 rfl rfl
@[go_sem]def Pf{t u:TypeId}:opA ar E ⟨dst,.convert t u x,ty,ps,w,gd⟩ s k=(bif isSlice (E u).desc then ng E t u ar.base dst s (s.ev x) k else tO s (bh E t).desc (E t).desc (E u).desc (s.ev x) (bx λv=>K (s.put dst v))):=B9 rfl rfl
@[go_sem]def Hp{t n:Nat}:opA ar E ⟨(S d),.buildSlice t n p,ty,ps,w,gd⟩ s k=(dI E t=T/\kv (ba E t) (bh E t).size (ar.base+d) d n s (p.toList.map λp=>(p.1,s.ev p.2)) k):=B9 rfl rfl
@[go_sem]def Lq{l c:Operand}:opA ar E ⟨(S d),.makeSlice t l c,ty,ps,w,gd⟩ s k=(dI E t=T/\jV (ba E t) (bh E t) (ar.base+d) d s (s.ev l) (s.ev c) k):=B9 rfl rfl
@[go_sem]def Xh:(opA ar E ⟨dst,.call ⟨.builtin .len,a,ts⟩,ty,ps,w,gd⟩ s k=((a.size=1/\ts.size=1)/\zE s (isStr (E (ts.getD 0 0)).desc) (dI E (ts.getD 0 0)) (s.ev (a.getD 0 (.const .nilFunc))) (bx λv=>K (s.put dst v))))/\(opA ar E ⟨dst,.call ⟨.builtin .max,a,ts⟩,ty,ps,w,gd⟩ s k=(a.size=2/\mxA T (s.ev (a.getD 0 (.const .nilFunc))) (s.ev (a.getD 1 (.const .nilFunc))) (bx λv=>K (s.put dst v)))):=by and_intros<;>exact B9 rfl rfl
@[go_sem]def Qn:opA ar E ⟨(S d),.call ⟨.builtin .append,a,ts⟩,ty,ps,w,gd⟩ s k=((a.size=2/\ts.size=2)/\dI E (ts.getD 0 0)=T/\na (ba E (ts.getD 0 0)) (bh E (ts.getD 0 0)) (isStr (E (ts.getD 1 0)).desc) (dI E (ts.getD 1 0)) (ar.base+d) d s (s.ev (a.getD 0 (.const .nilFunc))) (s.ev (a.getD 1 (.const .nilFunc))) k):=B9 rfl rfl
@[go_sem]def Lr{t f:Nat}:opA ar E ⟨dst,.fieldAddr t x f,ty,ps,w,gd⟩ s k=ja E t f s (s.ev x) (bx λv=>K (s.put dst v)):=B9 rfl rfl
@[go_sem]def To{t f:Nat}:opA ar E ⟨dst,.field t x f,ty,ps,w,gd⟩ s k=sC E t f (s.ev x) (bx λv=>K (s.put dst v)):=B9 rfl rfl
@[go_sem]def Tp{t:Nat}:opA ar E ⟨dst,.build t p,ty,ps,w,gd⟩ s k=fS E t (p.toList.map λp=>(p.1,s.ev p.2)) (bx λv=>K (s.put dst v)):=B9 rfl rfl
@[go_sem]def Xi{t:Nat}:opA ar E ⟨(S d),.box t x,ty,ps,w,gd⟩ s k=Lv t (ar.base+d) d s (s.ev x) k:=B9 rfl rfl
@[go_sem]def Tq{t:Nat}:opA ar E ⟨(S d),.alloc t,ty,ps,w,gd⟩ s k=yw t (E t) (ar.base+d) d s k:=B9 rfl rfl
@[go_sem]def Ph:opA ar E ⟨(S d),.makeMap t N,ty,ps,w,gd⟩ s k=mA E t (ar.base+d) d s k:=B9 rfl rfl
@[go_sem]def Qo{x G:Operand}{ok:Bool}:opA ar E ⟨dst,.lookup t x G ok,ty,ps,w,gd⟩ s k=nd E t s (s.ev x) (s.ev G) ok (bx λv=>K (s.put dst v)):=B9 rfl rfl
@[go_sem]def Ls{m G x:Operand}:opA ar E ⟨dst,.mapUpdate t m G x,ty,ps,w,gd⟩ s k=eK E t s (s.ev m) (s.ev G) (s.ev x) (bx λW=>K (W.put dst uv)):=B9 rfl rfl
@[go_sem]def LP{f:FuncId}{first q:Array Operand}:opA ar E ⟨dst,.makeFunc (.func f) first q,ty,ps,w,gd⟩ s k=jW f (first.toList.map s.ev) (q.toList.map s.ev) (bx λv=>K (s.put dst v)):=B9 rfl rfl
@[go_sem]def Uc{f:Operand}:opA ar E ⟨dst,.call ⟨.value f,a,ts⟩,ty,ps,w,gd⟩ s k=bC ar ⟨dst,.call ⟨.value f,a,ts⟩,ty,ps,w,gd⟩ s k:=B9 rfl rfl
@[go_sem]def Ts:jD b q .ret s=Q .ret s:=B9 rfl rfl
@[go_sem]def Qp:jD b q (.exit n) s=Q (.exit n) s:=B9 rfl rfl
@[go_sem]def Hg:jE n q .normal s=Q .normal s/\jE n q .ret s=Q .ret s:=by and_intros<;>exact B9 rfl rfl
@[go_sem]def Pj:rq q .ret s=Q .ret s:=B9 rfl rfl
@[go_sem]def Pk:=A4 @bX.eq_1 (A4 @qD.eq_1 (A4 @mZ.eq_1 (A4 @mZ.eq_2 (A4 @isStr.eq_1 (A4 @isSlice.eq_1 (A4 @ed.eq_2 (A4 @oq.eq_1 (A4 @ed.eq_1 (A4 @uX.eq_1 (A4 @uX.eq_2 (A4 @sB.eq_1 (A4 @cellsOf.eq_1 (A4 @cellsOf.eq_2 (A4 @setAt.eq_1 (A4 @setAt.eq_2 (A4 @my.eq_1 (A4 @iZ.eq_1 (A4 @iZ.eq_2 (A4 @uY.eq_1 (A4 @nZ.eq_1 (A4 @nZ.eq_2 (A4 @nZ.eq_3 (A4 @nZ.eq_4 (A4 @nZ.eq_5 (A4 @nZ.eq_6 (A4 @nZ.eq_7 (A4 @nZ.eq_8 (A4 @nZ.eq_9 (A4 @nZ.eq_10 (A4 @nZ.eq_11 (A4 @nZ.eq_12 (A4 @nZ.eq_13 (A4 @nZ.eq_16 (A4 @sameKind.eq_1 (A4 @nZ.eq_17 (A4 @sameKind.eq_2 (A4 @Fw.eq_1 (A4 @Fw.eq_2 (A4 @Fw.eq_3 (A4 @Cc.eq_1 (A4 @Cc.eq_2 (A4 @Cc.eq_3 (A4 @Qd.eq_2 (A4 @unA.eq_1 (A4 @tO.eq_1 (A4 @tO.eq_3 (A4 @u8s.eq_2 (A4 @contents.eq_2 (A4 @contents.eq_4 (A4 @na.eq_1 (A4 @na.eq_2 (A4 @zE.eq_2 (A4 @zE.eq_3 (A4 @zE.eq_4 (A4 @jT.eq_1 (A4 @jT.eq_2 (A4 @qE.eq_1 (A4 @qE.eq_4 (A4 @Cg.eq_1 (A4 @kv.eq_1 (A4 @kS.eq_1 (A4 @ja.eq_1 (A4 @ja.eq_2 (A4 @sC.eq_1 (A4 @uZ.eq_1 (A4 @fS.eq_1 (A4 @Lv.eq_1 (A4 @yw.eq_1 (A4 @jU.eq_1 (A4 @jU.eq_2 (A4 @ou.eq_1 (A4 @jV.eq_1 (A4 @iK.eq_1 (A4 @iK.eq_2 (A4 @zF.eq_1 (A4 @zF.eq_2 (A4 @nc.eq_1 (A4 @nc.eq_2 (A4 @zH.eq_1 (A4 @datas.eq_2 (A4 @mA.eq_1 (A4 @Hj.eq_2 (A4 @ow.eq_2 (A4 @jW.eq_1 (A4 @ng.eq_1 (A4 @St.ev.eq_1 (A4 @St.ev.eq_2 (A4 @St.ev.eq_4 (A4 @zB.eq_1 (A4 @zB.eq_2 (A4 @zB.eq_3 (A4 @zB.eq_4 (A4 @zB.eq_5 (A4 @jD.eq_1 (A4 @jE.eq_1 @St.newC.eq_1)))))))))))))))))))))))))))))))))))))))))))))))))))))))))))))))))))))))))))))))))))))))))))))))
section steps
variable{f:Nat->AV}{g:Nat->Nat}{ob:Nat->Option (List C)}{Q:Exit->St->Prop}{q:Box Q}{K:St->Prop}{k:Box K}{ops:Array Oper}{rest:List Oper}
@[go_sem]def Ud:wpC ar E .skip q ⟨f,g,ob⟩=Q .normal ⟨f,g,ob⟩:=B9 rfl rfl
@[go_sem]def Tu:wpC ar E (.label n) q ⟨f,g,ob⟩=Q .normal ⟨f,g,ob⟩:=B9 rfl rfl
@[go_sem]def Tv:wpC ar E (.scope c) q ⟨f,g,ob⟩=wpC ar E c (bx (rq q)) ⟨f,g,ob⟩:=B9 rfl rfl
@[go_sem]def Ue:wpC ar E (.region n l.toArray T) q ⟨f,g,ob⟩=ly ar E n l.toArray ⟨f,g,ob⟩ q:=B9 rfl rfl
@[go_sem]def Qq:wpC ar E (.region n l.toArray F) q ⟨f,g,ob⟩=wpO ar E l.toArray l ⟨f,g,ob⟩ (bx λW=>Q .normal W):=by simp[wpC]
@[go_sem]def Xk{x y:Code}:wpC ar E (.seq x y) q ⟨f,g,ob⟩=wpC ar E x (bx (jD (bx λW=>wpC ar E y q W) q)) ⟨f,g,ob⟩:=B9 rfl rfl
@[go_sem]def Uf{c:Operand}{x y:Code}:wpC ar E (.cond c x y) q ⟨f,g,ob⟩=qD (St.ev ⟨f,g,ob⟩ c) (bx λb=>if b then wpC ar E x q ⟨f,g,ob⟩else wpC ar E y q ⟨f,g,ob⟩):=B9 rfl rfl
@[go_sem]def Tw:wpC ar E (.block n c) q ⟨f,g,ob⟩=wpC ar E c (bx (jE n q)) ⟨f,g,ob⟩:=B9 rfl rfl
@[go_sem]def Ug:wpC ar E (.loop c) q ⟨f,g,ob⟩=oF ar (bx λQ s=>wpC ar E c (bx Q) s) q ⟨f,g,ob⟩:=B9 rfl rfl
@[go_sem]def Uh:wpC ar E (.exit n) q ⟨f,g,ob⟩=Q (.exit n) ⟨f,g,ob⟩:=B9 rfl rfl
@[go_sem]def Xl:wpC ar E .ret q ⟨f,g,ob⟩=Q .ret ⟨f,g,ob⟩:=B9 rfl rfl
@[go_sem]def Xm:wpO ar E ops [] ⟨f,g,ob⟩ k=K ⟨f,g,ob⟩:=B9 rfl rfl
@[go_sem]def Ui{op:Op}:
  wpO ar E ops (⟨dst,op,ty,ps,w,N⟩::rest) ⟨f,g,ob⟩ k=opA ar E ⟨dst,op,ty,ps,w,N⟩ ⟨f,g,ob⟩ (bx λW=>wpO ar E ops rest W k):=B9 rfl rfl
@[go_sem]def Uj{op:Op}{j:Nat}{t:Bool}:
  wpO ar E ops (⟨dst,op,ty,ps,w,S (j,t)⟩::rest) ⟨f,g,ob⟩ k =
   bX ((ops[j]?).bind (·.dst)) (bx λd=>
    mZ (f d) (bx λb=>if b=t then opA ar E ⟨dst,op,ty,ps,w,S (j,t)⟩ ⟨upd f d (bv b),g,ob⟩ (bx λW=>wpO ar E ops rest W k)
     else wpO ar E ops rest (St.put ⟨upd f d (bv b),g,ob⟩ dst uv) k) (bx (wpO ar E ops rest (St.put ⟨f,g,ob⟩ dst uv) k))):=B9 rfl rfl
end steps
@[go_sem]def St.put_some(s:St)(d:Nat)(v:AV):s.put (S d) v = {s with f:=upd s.f d v}:=B9 rfl rfl
@[go_sem]def St.put_none(s:St)(v:AV):s.put N v=s:=B9 rfl rfl
@[go_sem]def Tx:=@upd.eq_1
attribute [go_sem] Nat.reduceEqDiff Nat.reduceAdd Nat.reduceMul Nat.reduceSub Nat.reduceLT Nat.reduceLeDiff Int.reduceLT Int.reduceLE Int.reduceEq Int.reduceNe Int.reduceAdd Int.reduceNeg Int.reduceToNat
attribute [go_sem] if_true if_false ite_true ite_false and_true true_and List.length_map List.length_cons List.length_nil List.size_toArray Option.bind_some Option.map_some Option.map_none Option.bind_none cond_true cond_false List.append_nil List.cons_append List.set_cons_zero List.set_cons_succ List.set_nil List.drop_succ_cons List.take_succ_cons List.take_zero
attribute [go_sem] Array.getD_eq_getD_getElem? List.getElem?_toArray List.getElem?_cons_zero List.getElem?_cons_succ List.getElem?_nil Option.getD_some Option.getD_none List.getElem?_map
attribute [go_sem] List.drop_zero List.take_length Nat.mul_one Nat.zero_add List.map_cons List.map_nil List.nil_append reduceCtorEq not_true_eq_false not_false_eq_true implies_true Bool.not_true Bool.not_false Bool.true_eq_false Bool.false_eq_true
attribute [go_sem] Option.some.injEq Option.isSome_some decide_true decide_false ne_eq Int.toNat_natCast
end equations
end
end
end Go.Am

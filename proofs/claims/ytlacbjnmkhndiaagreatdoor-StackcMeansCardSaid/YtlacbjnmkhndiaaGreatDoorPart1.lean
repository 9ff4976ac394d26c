/- A part of the proof; no conditions. -/
import Derived.KernelRfl
import Derived.StillTail
import Derived.Deep.Quiet
set_option linter.unusedSimpArgs false
set_option linter.unusedVariables false
set_option linter.defProp false
open List renaming length -> z
open Option renaming some -> S, none -> N
open Bool renaming true -> T, false -> F
namespace Go
section
def a7{P:Prop}(h:P:=by omega):P:=h
def a8{P:Prop}(h:P:=by simp):P:=h
def b9{P:Prop}(h:P:=by decide):P:=h
def c8{P:Prop}(h:P:=by decide +kernel):P:=h
def c9{P:Prop}(h:P:=by kernel_rfl):P:=h
def j0{P:Prop}(h:P:=by rfl):P:=h
def j4{P:Prop}(h:P:=by assumption):P:=h
abbrev j6:=@List.length_map
abbrev j7:=@List.length_append
abbrev j8:=@if_neg
abbrev j9:=@List.length_cons
abbrev l4:=@List.length_nil
abbrev l5:=@List.getElem?_eq_some_iff
abbrev l6:=@List.mem_of_getElem?
abbrev l7:=@Nat.le_refl
abbrev l8:=@if_pos
abbrev l9:=@List.map_cons
abbrev s5:=@Bool.and_eq_true
abbrev s6:=@List.take_of_length_le
abbrev s7:=@List.append_nil
abbrev s9:=@List.getElem?_cons_succ
abbrev u7:=@List.append_assoc
abbrev v7:=@Option.some.injEq
abbrev v8:=@List.getElem?_eq_getElem
abbrev w7:=@List.getElem?_cons_zero
abbrev w8:=@eq_true
abbrev w9:=@List.map_nil
abbrev x6:=@Bool.true_and
abbrev x7:=@List.getElem?_toArray
abbrev x8:=@List.getElem?_map
abbrev x9:=@True.intro
abbrev y7:=@List.eq_nil_of_length_eq_zero
abbrev y8:=@List.all_eq_true
abbrev y9:=@List.drop_of_length_le
abbrev z6:=@Array.getD_eq_getD_getElem?
abbrev z7:=@Option.map_some
abbrev A0:=@And.intro
abbrev A3:=@List.mem_cons
abbrev A4:=@decide_eq_false
abbrev A5:=@Option.getD_some
abbrev A6:=@List.nil_append
abbrev A7:=@Bool.false_and
abbrev A8:=@if_false
abbrev A9:=@List.not_mem_nil
abbrev B1:=@if_true
abbrev B3:=@Int.toNat_natCast
abbrev B4:=@decide_eq_true_eq
abbrev B5:=@List.map_append
abbrev B6:=@Array.getElem?_eq_getElem
abbrev B7:=@Eq.trans
abbrev B8:=@Ne.symm
abbrev B9:=@List.getElem?_set
abbrev C0:=@Nat.add_assoc
abbrev C1:=@List.drop_eq_getElem_cons
abbrev C2:=@List.length_set
abbrev C3:=@List.cons_append
abbrev C4:=@List.mem_append
abbrev C5:=@Int.le_refl
abbrev C6:=@Option.isSome_some
abbrev C7:=@Nat.zero_add
abbrev C8:=@Nat.le_trans
abbrev C9:=@decide_eq_true
abbrev D0:=@List.take_add_one
abbrev D1:=@List.length_take
abbrev D2:=@Bool.and_false
abbrev D3:=@List.drop_zero
abbrev D4:=@List.getElem?_append_right
abbrev D5:=@List.mem_range
abbrev D6:=@List.getElem?_of_mem
abbrev D7:=@Bool.false_eq_true
abbrev D8:=@Option.isSome_none
abbrev D9:=@List.sum_cons
abbrev ER:=@Array.getElem?_eq_some_iff
abbrev ES:=@List.getD_eq_getElem?_getD
abbrev E0:=@List.mem_singleton
abbrev E3:=@List.mem_map
abbrev E4:=@Array.getElem?_replicate
abbrev E5:=@List.getElem?_eq_none
abbrev E6:=@or_false
abbrev E7:=@Nat.add_mul
abbrev E8:=@List.flatten_cons
abbrev E9:=@List.all_cons
abbrev F0:=@List.getElem?_append_left
abbrev F1:=@List.eq_of_mem_replicate
abbrev F2:=@Nat.le_of_eq
abbrev F3:=@Bool.and_assoc
abbrev F6:=@List.replicate_succ
abbrev F7:=@List.length_drop
abbrev F8:=@Array.getElem?_append_left
abbrev F9:=@List.drop_length
abbrev G0:=@List.length_replicate
abbrev G1:=@Option.map_eq_some_iff
abbrev G2:=@List.flatMap_cons
abbrev G3:=@Nat.lt_of_le_of_lt
abbrev G4:=@List.length_eq_zero_iff
abbrev G5:=@List.take_succ_cons
abbrev G6:=@Option.some.inj
abbrev G7:=@List.set_cons_zero
abbrev G8:=@Array.getElem_mem_toList
abbrev G9:=@Nat.lt_of_lt_of_le
abbrev H0:=@List.getElem?_drop
abbrev H2:=@Array.getElem?_append_right
abbrev H3:=@List.take_append_drop
abbrev H4:=@Option.map_none
abbrev H5:=@List.all_append
abbrev H6:=@Bool.or_eq_true
abbrev H7:=@List.foldl_cons
abbrev H8:=@List.take_length
abbrev H9:=@List.getElem?_replicate
abbrev IT:=@Prod.mk.injEq
abbrev I1:=@List.getElem?_take
abbrev I2:=@Int.toNat_of_nonneg
abbrev I3:=@beq_iff_eq
abbrev I4:=@Array.getElem?_toList
abbrev I5:=@List.singleton_append
abbrev I6:=@List.set_append_right
abbrev I7:=@Bool.not_eq_true'
abbrev I8:=@List.getElem_mem
abbrev I9:=@List.forall_mem_append
abbrev Je:=@List.mem_or_eq_of_mem_set
abbrev Jf:=@Array.ext'
abbrev Js:=@List.contains_iff_mem
abbrev Ju:=@Nat.le_of_ble_eq_true
abbrev J0:=@Bool.not_false
abbrev J1:=@List.mem_mapIdx
abbrev J2:=@List.mem_cons_self
abbrev J3:=@Option.toList_some
abbrev J4:=@Option.bind_some
abbrev J5:=@Nat.sub_self
abbrev J6:=@Nat.add_zero
abbrev J7:=@Array.getElem?_eq_none
abbrev J8:=@List.takeWhile_cons
abbrev J9:=@Nat.mod_eq_of_lt
abbrev K7:=@Bool.and_true
abbrev K8:=@List.getElem?_append
abbrev K9:=@Nat.mul_le_mul_right
abbrev L0:=@Nat.zero_le
abbrev L1:=@List.replicate_zero
abbrev L2:=@decide_false
abbrev L3:=@Nat.mul_one
abbrev L4:=@Nat.le_add_right
abbrev L5:=@List.take_zero
abbrev L6:=@List.sum_append
abbrev L7:=@Nat.div_le_self
abbrev L8:=@and_true
abbrev L9:=@List.mem_of_mem_drop
abbrev Mj:=@Option.isSome_iff_exists
abbrev Ml:=@Array.getElem?_setIfInBounds_ne
abbrev Mm:=@List.mapIdx_cons
abbrev Mp:=@List.filter_eq_nil_iff
abbrev Mt:=@UInt8.toNat_ofNat'
abbrev Mu:=@List.map_set
abbrev Mw:=@Nat.div_div_eq_div_mul
abbrev M0:=@Array.getElem?_setIfInBounds
abbrev M1:=@List.dropLast_concat_getLast
abbrev M3:=@not_false_eq_true
abbrev M4:=@of_decide_eq_true
abbrev M5:=@List.ext_getElem?
abbrev M6:=@List.reverse_cons
abbrev M7:=@Array.getElem?_setIfInBounds_self_of_lt
abbrev M8:=@List.getElem?_set_ne
abbrev M9:=@List.mem_of_mem_take
abbrev Nt:=@List.isPrefixOf_iff_prefix
abbrev Nu:=@List.getElem?_mapIdx
abbrev Nw:=@Nat.pow_succ
abbrev NA:=@List.getLast?_eq_getElem?
abbrev N0:=@List.getElem?_eq_none_iff
abbrev N1:=@Array.length_toList
abbrev N2:=@List.length_pos_iff
abbrev N3:=@List.flatMap_append
abbrev N4:=@Bool.not_true
abbrev N5:=@Bool.eq_iff_iff
abbrev N6:=@Int.natCast_mul
abbrev N7:=@List.nodup_cons
abbrev N8:=@List.set_cons_succ
abbrev N9:=@Array.all_eq_true'
abbrev O0:=@Nat.mod_lt
abbrev O2:=@List.map_replicate
abbrev O6:=@Nat.add_sub_cancel_left
abbrev O7:=@List.mapM_cons
abbrev O8:=@Nat.le_of_lt
abbrev O9:=@List.foldl_append
abbrev PW:=@List.flatten_replicate_singleton
abbrev P0:=@List.takeWhile_sublist
abbrev P1:=@List.any_eq_true
abbrev P2:=@Array.eq_empty_of_size_eq_zero
abbrev P3:=@Array.mem_toList_iff
abbrev P4:=@List.mem_cons_of_mem
abbrev P5:=@List.range_eq_range'
abbrev P6:=@Nat.one_mul
abbrev P7:=@List.cons.injEq
abbrev P8:=@Nat.le_antisymm
abbrev P9:=@UInt8.toNat_inj
abbrev Qb:=@List.range_succ
abbrev Qc:=@List.getD_cons_succ
abbrev Qd:=@Array.getElem?_push
abbrev Qe:=@List.getElem?_range
abbrev Qj:=@List.map_congr_left
abbrev Qt:=@List.reverse_append
abbrev Qv:=@List.map_map
abbrev QI:=@List.sum_nil
abbrev Q0:=@Nat.pow_zero
abbrev Q1:=@List.count_pos_iff
abbrev Q2:=@List.drop_drop
abbrev Q3:=@List.foldl_nil
abbrev Q4:=@BitVec.toNat_ofInt
abbrev Q5:=@Int.fdiv_eq_ediv_of_nonneg
abbrev Q6:=@Classical.byContradiction
abbrev Q7:=@Option.isNone_iff_eq_none
abbrev Q8:=@List.mem_of_find?_eq_some
abbrev Q9:=@not_true_eq_false
abbrev RZ:=@decide_true
abbrev R4:=@Array.getElem_mem
abbrev R5:=@List.mapM_toArray
abbrev R6:=@Bool.false_or
abbrev R7:=@not_or
abbrev R8:=@Array.size_setIfInBounds
abbrev R9:=@true_and
abbrev Sa:=@Option.getD_none
abbrev Sb:=@List.countP_cons
abbrev Sc:=@Nat.le_mul_of_pos_right
abbrev Sd:=@List.getElem?_set_self
abbrev Se:=@Nat.lt_or_ge
abbrev Sf:=@Nat.add_comm
abbrev Sh:=@Nat.mul_comm
abbrev Si:=@List.head?_eq_getElem?
abbrev Sj:=@List.mem_filter
abbrev Sk:=@Option.any_some
abbrev Sl:=@Nat.min_eq_left
abbrev Sn:=@Array.getElem?_modify
abbrev So:=@Array.mem_of_getElem?
abbrev Sq:=@List.length_singleton
abbrev Sr:=@List.countP_replicate
abbrev Ss:=@List.nodup_nil
abbrev Su:=@Nat.div_one
abbrev Sv:=@true_or
abbrev Sw:=@or_true
abbrev Sx:=@cond_false
abbrev Sy:=@cond_true
def dM{P:Prop}(h:P:=by
 simp only[go_sem];refine⟨_,ae.refl _,?_⟩;simp only[go_sem];exact bi.nil (λi hi=>⟨nt ((fr i hi).1),nt ((fr i hi).2)⟩) (o:=[bv F]) ⟨_,_,rfl,.one (.d _),rfl⟩ ⟨rfl,rfl,rfl⟩):P:=h
def dT{P:Prop}(h:P:=by
 cases yt
 .simp only[A7,D2]at b
  subst b;exact dM
 simp only[go_sem,q0,q4,o4];refine cl aa rfl a6 (by simp only[go_sem];rfl) (B+65) a7 (λi hi=>nt (ar i a7)) ((E.mono hB fr).mono hB λi hi=>⟨nu,nu⟩) ?_;cases ye
 .simp only[A7,D2]at b
  subst b;exact dM
 simp only[x6]at b;simp only[go_sem,q,hw];refine ah (m-1) a7 ⟨k+1,a7,b,?_⟩;simp only[go_sem,q0,q4,W,A,o4];exact⟨λj hj=>⟨nt ((fr j hj).1),nt ((fr j hj).2)⟩,λj hj=>nt (ar j hj)⟩):P:=h
def gD{P:Prop}(h:P:=by
 rintro r g' Y ⟨f1,f2⟩;simp only[go_sem];exact bt (.inr rfl) (fin (λi hi=>by (try simp only[upd]);repeat (rw[j8 (by omega)]);try rfl) (λi hi=>by (try simp only[upd]);repeat (rw[j8 (by omega)]);try rfl) f1 f2)):P:=h
def gG{P:Prop}(h:P:=by
 refine cl aa rfl (u 1) (by simp only[go_sem];rfl) (B+65) a7 (λi hi=>nt (ar i a7)) ((E.mono hB fr).mono hB λi hi=>⟨nu,nu⟩) ?_;cases a:cA fs 1 es
 .rw[a]at b
  simp only[A7,D2]at b;subst b;exact dM
 rw[a]at b;simp only[x6]at b;simp only[go_sem,q0,q4,o4];refine cl aa rfl G (by simp only[go_sem];rfl) (B+65) a7 (λi hi=>nt (ar i a7)) ((E.mono hB fr).mono hB λi hi=>⟨nu,nu⟩) ?_;exact dT):P:=h
def gH{P:Prop}(h:P:=by
 refine this.mono λe G hE=>?_;rcases hE with⟨v,r,g',Y,A,he,hR,hv,U,h2,h3⟩|⟨ch,g',Y,A,he,b,U,h2,h3⟩
 .subst he
  obtain⟨k1,k2⟩:=iD V c hv U h2 h3;exact⟨k1.defers,hn _ A _ G ⟨r,g',Y,hR,rfl⟩ k1 (a6 _ _ _ _ _ _ _ X k2)⟩
 .subst he
  have hk:eQ O β s.gen s.obj w A g' Y G:=h3.keep;have ht:Tr O β s w A ⟨s.f,g',Y⟩ G:=⟨h3.size,h3.old,hk,h3.os⟩
  exact g ch ⟨s.f,g',Y⟩ A a G (I _ _ _ b) ⟨V.defers,V.size,λi=>ag.keep hk _ (V.f i),U,h2,C8 V.base h3.size⟩ (a6 _ _ _ _ _ _ _ X ht)):P:=h
def gI{P:Prop}(h:P:=by
 rintro n f g' Y ⟨k,hk,q0,q4,q3,q⟩;simp only at q0 q4 q3 q;have hw:=ac (k:=k) a7;by_cases af:k<32
 .have G:(k:Int)<32:=a7
  have b8:a/2^k<4294967296:=G3 (L7 _ _) ha;have m:a/2^(k+1)=a/2^k/2:=by rw[Nw,Mw]
  have an:=wB (a:=a) af;generalize a/2^k=v at q0 b8 m an;have hm:(v:Int).tmod 2=((v%2:Nat):Int):=rfl;have hd:(v:Int).tdiv 2=((v/2:Nat):Int):=rfl;have t:IntKind.i64.wrap ((v%2:Nat):Int)=((v%2:Nat):Int):=by rw[wrap_i64]<;>omega
  have b:IntKind.u32.wrap ((v%2:Nat):Int)=((v%2:Nat):Int):=dK a7;have bz:IntKind.u32.wrap ((v/2:Nat):Int)=((v/2:Nat):Int):=dK a7;rcases q3 with⟨bf,q3⟩|⟨bf,q3,o⟩
  .simp only[go_sem,q0,q3,q4,G,hm,hd,t,b,bz,hw]
   refine⟨⟨b9,b9⟩,?_⟩;refine cH (P:=Tryz.prog) (n-1) a7 ⟨k+1,a7,?_⟩;simp only[go_sem,m];subst bf;refine⟨.inr ⟨a7,rfl,?_⟩,λi hi=>?_⟩
   .rw[an];rfl
   ·(repeat rw[j8 (by omega)]);exact q i hi
  .simp only[go_sem,q0,q3,q4,o,G,hm,hd,t,b,bz,hw]
   refine⟨by simp[jK,dn];omega,⟨b9,a7⟩,?_⟩;refine cH (P:=Tryz.prog) (n-1) a7 ⟨k+1,a7,?_⟩;simp only[go_sem,m];refine⟨.inr ⟨a7,?_⟩,λi hi=>?_⟩
   .rw[an,s6 (by simp[jK,dn];omega)];simp[jK]
   ·(repeat rw[j8 (by omega)]);exact q i hi
 .have G:¬(k:Int)<32:=a7
  obtain rfl:k=32:=a7;rcases q3 with⟨bf,q3⟩|⟨bf,q3,o⟩
  .omega
  rw[s6 (by rw[dn];decide)]at o;simp only[go_sem,q0,q3,q4,show ¬((32:Nat):Int)<32 by decide];exact bt (.inl rfl) ⟨by simp[mJ,upd],o,q⟩):P:=h
def gO{P:Prop}(h:P:=by
 intro r g2 bo S2 K2;simp only[go_sem];refine⟨_,ae.refl _,?_⟩;simp only[go_sem];exact ar.pack S2 (v.trans (cD.down (K1.trans K2) a7)) (by simp only[ak,ao,aq,Emit.db,Emit.cP,j7,j9,l4,u7,s7,A6]) (by simp only[ak,ao,aq,Emit.db,Emit.cP,j7,j9,l4,u7,s7,A6]) (o:=[]) rfl):P:=h
def gT{P:Prop}(h:P:=by (try simp only[upd]);(repeat rw[j8 (by omega)])):P:=h
def gW{P:Prop}(h:P:=by
 refine⟨_,ae.refl _,?_⟩;simp only[go_sem];exact bi.nil (λi hi=>⟨nu,nu⟩) (o:=[iv .i64 0]) ⟨_,_,rfl,.one (.d _),rfl⟩ ⟨rfl,rfl,rfl⟩):P:=h
def hx{P:Prop}(h:P:=by simp only[go_sem]):P:=h
def hH{P:Prop}(h:P:=by
 have m:∀l:List Operand,(l.map s.ev).all eH=T->RVs (Imm O β s.obj w) w (l.map s.ev) (l.map a.eval):=by
  intro l
  induction l with
  |nil=>intro _;simp only[w9,RVs]
  |cons x l ih=>
    intro h;simp only[l9,E9,s5]at h;simp only[l9,RVs];exact⟨_,_,rfl,ag.data h.1 (V.ev x),ih h.2⟩
 have:=hp.2 (Imm O β s.obj w) w (args.toList.map a.eval) (hG _ _ _ _ X).2 (λ_ h=>h.1) (m _ hd);rw[show (args.toList.map a.eval).toArray=args.map a.eval from Jf a8]at this;refine this.mono λe G⟨v,r,he,hR,hs,hh,n,hv⟩=>?_;subst he;obtain⟨g1,g2⟩:=V.grow hs hh n;have g3:=g2.trans (Tr.same (St.put_gen s op.dst r) (St.put_obj s op.dst r) rfl);have U:=g1.put c (RV.rep r (RV.mono (λb hb=>⟨sW V (J:=λb=>Imm O β s.obj w b\/b<=q) (λb h=>h.elim id (tN V (hG _ _ _ _ X))) hb,rfl⟩) r hv));exact⟨U.defers,hn _ β _ G ⟨r,hR,rfl⟩ U (a6 _ _ _ _ _ _ _ X g3)⟩):P:=h
def hK{P:Prop}(h:P:=by
 have:(vs.toArray++Array.replicate (fn.ntmps-vs.toArray.size) undef).getD i undef=undef:=by
  rw[z6,H2 (by simp;omega)];simp[E4];split<;>rfl
 rw[this];exact cI):P:=h
def hM{P:Prop}(h:P:=by
 rw[bk,cq]at c;have a:=CF (fs:=fs) (gr:=gr) (gm:=gm) (szE Z) Z (l7 _) a7;obtain⟨y,hy⟩:∃y,fV fs Z=y:=⟨_,rfl⟩
 rw[hy]at c a;obtain⟨t,L,s,h,p⟩:=Z;have bz:exD (.mk t L s h p)=[.int .i64 t,.int .i64 L,.int .u32 s,.str h,.sl (p.map exD)]:=by simp only[exD,aK]
 simp only[go_sem,q0,az,P,U,u,bo,cb,bz];refine cl aa rfl a (by simp only[go_sem,exV,bz,l9,w9]) (B+57) a7 (λi hi=>nt (ar i a7)) ((E.mono hB fr).mono hB λi hi=>⟨nu,nu⟩) ?_;cases y
 .simp only[A7]at c
  subst c;exact dM
 .simp only[x6]at c
  simp only[go_sem,U,w];refine ah (m2-1) a7 ⟨n+1,a7,c,?_⟩;simp only[go_sem,q0,q6,W,A,q,az,P,o6];exact⟨λj hj=>⟨nt ((fr j hj).1),nt ((fr j hj).2)⟩,λj hj=>nt (ar j hj)⟩):P:=h
def hO{P:Prop}(h:P:=by
 simp only[x7,w7,s9,v7]at ho;subst ho;refine .inr ⟨⟨24,rfl,x (c ⟨2,.guard⟩ a8 rfl)⟩,?_⟩;simp only[go_sem,b]
 (repeat' first|assumption|apply A0)):P:=h
def hV{P:Prop}(h:P:=by
 simp only[Oper.upon]
 have m:∀l:List Operand,(l.map s.ev).all eH=T->RVs (Imm O β s.obj w) w (l.map s.ev) (l.map a.eval):=by
  intro l
  induction l with
  |nil=>intro _;simp only[w9,RVs]
  |cons x l ih=>
    intro h;simp only[l9,E9,s5]at h;simp only[l9,RVs];exact⟨_,_,rfl,ag.data h.1 (V.ev x),ih h.2⟩
 have:=hp.2 (Imm O β s.obj w) w (args.toList.map a.eval) (λ_ h=>h.1) (m _ hd);rw[show (args.toList.map a.eval).toArray=args.map a.eval from Jf a8]at this;refine this.mono λe G⟨v,r,he,hR,hs,hh,n,hv⟩=>?_;subst he;obtain⟨g1,g2⟩:=V.grow hs hh n;refine hn _ β _ G ⟨r,hR,rfl⟩ (g1.put c (RV.rep r (RV.mono (λb hb=>⟨sW V (λ_ h=>h) hb,rfl⟩) r hv))) (g2.trans (Tr.same (St.put_gen _ _ _) (St.put_obj _ _ _) rfl))):P:=h
def hY{P:Prop}(h:P:=by
 have:∀(es:List (List D))(_:∀e∈es,z e=sz)i,es[i]?=S e->es.flatten[i*sz+j]?=S x:=by
  intro es
  induction es with
  |nil=>intro _ i h;simp at h
  |cons e' es n=>
    intro hs i h;have hl:=hs e' a8;cases i with
    |zero=>
      simp at h;subst h;rw[E8,F0 (by simpa using(l5.1 I).1)];simpa using I
    |succ i=>
      rw[E8,D4 (by rw[hl,E7];omega),hl,show (i+1)*sz+j-sz=i*sz+j by rw[E7];omega];exact n (λe h=>hs e (by simp[h])) i (by simpa using h)
 exact this es az i he):P:=h
def h1{P:Prop}(h:P:=by
 rw[bd,cq]at b;have c:=ih (szE e) a7 e (l7 _) a7;obtain⟨y,hy⟩:∃y,fV fs e=y:=⟨_,rfl⟩
 rw[hy]at b c;obtain⟨t,L,s,h,p⟩:=e;have hE:exD (.mk t L s h p)=[.int .i64 t,.int .i64 L,.int .u32 s,.str h,.sl (p.map exD)]:=by simp only[exD,aK]
 simp only[go_sem,q0,W,A,q,Q,bf,he,hE];refine cl aa rfl c (by simp only[go_sem,exV,hE,l9,w9]) (B+36) a7 (λi hi=>nt (ar i a7)) ((E.mono hB fr).mono hB λi hi=>⟨nu,nu⟩) ?_;cases y
 .rw[A7]at b
  subst b;exact dM
 .rw[x6]at b
  simp only[go_sem,q,hw];refine ah (m-1) a7 ⟨k+1,a7,b,?_⟩;simp only[go_sem,q0,W,A];exact⟨λj hj=>⟨nt ((fr j hj).1),nt ((fr j hj).2)⟩,λj hj=>nt (ar j hj)⟩):P:=h
def ia{P:Prop}(h:P:=by
 obtain rfl:X=F:=by
  have:¬el=[]:=λe=>by rw[e]at a6;exact absurd a6 b9
  rw[<-hz];simp[cp,this]
 simp only[go_sem,j,j6,a6]):P:=h
def ib{P:Prop}(h:P:=by exact⟨λj hj=>⟨nt ((fr j hj).1),λh5 h6=>nt ((fr j hj).2 h5 h6)⟩,λj hj=>nt (ar j hj)⟩):P:=h
def ic{P:Prop}(h:P:=by
 subst b;simp only[go_sem,A,q,Q];refine⟨_,ae.refl _,?_⟩;simp only[go_sem];exact bi.nil fr (o:=[bv T]) ⟨_,_,rfl,.one (.d _),rfl⟩ ⟨rfl,rfl,rfl⟩):P:=h
def im{P:Prop}(h:P:=by
 intro g2 bo p2 q2 r2;simp only[go_sem];refine bH (λi=>decide (K<=i)) ?_;exact⟨rfl,bs _ rfl _ _ p2⟩):P:=h
def j1{P:Prop}(h:P:=by
 intro r g4 bf J K4;simp only[go_sem];refine⟨_,ae.refl _,?_⟩;simp only[go_sem];exact ar.pack J (v.trans (cD.down (K1.trans (K2.trans (L.trans K4))) a7)) (by simp only[ak,ao,aq,Emit.db,Emit.cP,j7,j9,l4,u7,s7,A6]) (by simp only[ak,ao,aq,Emit.db,Emit.cP,j7,j9,l4,u7,s7,A6]) (o:=[]) rfl):P:=h
def j3{P:Prop}(h:P:=by
 rw[hf]at v;simp only[z7,thD]at v;simp only[go_sem,n1,n2,n3,jY,p,hm,D8,C6,v,a];refine⟨_,ae.refl _,?_⟩;simp only[go_sem];refine bi.two (m:=M) (n:=[.d (.bool F)]) (λi hi ha hb=>⟨by (try simp only[upd]);(repeat rw[j8 (by omega)]),by (try simp only[upd]);(repeat rw[j8 (by omega)])⟩) (by (try simp only[upd]);(repeat rw[j8 (by omega)])) (by (try simp only[upd]);(repeat rw[j8 (by omega)])) (by simp only[upd];(repeat rw[j8 (by omega)]);exact hm) (by simp[upd]) hd.low Ed (o:=[]) rfl ⟨rfl,M,mo.old hf,hd,by rw[hf];simp⟩):P:=h
def kb{P:Prop}(h:P:=by exact λ_ _ _ h=>h.elim):P:=h
def km{P:Prop}(h:P:=by
 have e1:=congrFun u;simp only[upd]at e1;rw[e1]at hj|-;by_cases n:e.on=i
 .rw[l8 n]
 .rw[j8 n]
  by_cases bd:j=i
  .subst bd
   rw[ho]at H;cases H;exact f e he hb
  .rw[j8 bd]at hj
   exact hid j g hj H e he hb):P:=h
def kn{P:Prop}(h:P:=by
 obtain rfl:X=F:=by
  have:¬th=[]:=λe=>by rw[e]at G;exact absurd G b9
  rw[<-hz];simp[cp,this]
 simp only[go_sem,j,j6,a6,G]):P:=h
def kp{P:Prop}(h:P:=by
 cases yt
 .simp only[A7]at c
  subst c;exact dM
 simp only[go_sem,q0,q6,o6];refine cl aa rfl a6 (by simp only[go_sem];rfl) (B+57) a7 (λi hi=>nt (ar i a7)) ((E.mono hB fr).mono hB λi hi=>⟨nu,nu⟩) ?_;cases ye
 .simp only[A7,D2]at c
  subst c;exact dM
 simp only[x6]at c;simp only[go_sem,q,hw];refine ah (m-1) a7 ⟨k+1,a7,c,?_⟩;simp only[go_sem,q0,W,A];exact⟨λj hj=>⟨nt ((fr j hj).1),nt ((fr j hj).2)⟩,λj hj=>nt (ar j hj)⟩):P:=h
def kt{P:Prop}(h:P:=by
 simp only at q0 q6 W A q az P U o6 fr ar;have w:=ac (k:=n) a7;by_cases bs:n<z es
 .have u:(n:Int)<(z es:Int):=a7
  have bo:(0:Int)<=(n:Int):=a7;obtain⟨Z,cb⟩:=getq bs;have b1:=Src.LU (l6 cb);have bk:es.drop n=Z::es.drop (n+1):=by rw[C1 bs,(l5.1 cb).2]
  exact hM
 have u:¬(n:Int)<(z es:Int):=a7;obtain rfl:n=z es:=a7;rw[F9,cq,x6]at c;simp only[go_sem,q0,q6,P,U,u,o6];refine cl aa rfl G (by simp only[go_sem];rfl) (B+57) a7 (λi hi=>nt (ar i a7)) ((E.mono hB fr).mono hB λi hi=>⟨nu,nu⟩) ?_;exact kp):P:=h
def k0{P:Prop}(h:P:=by
 refine aw (λm K=>∃n:Nat,m+n=z es/\(cq fs (es.drop n)&&(yt&&ye)&&bU fs (l.drop (k+1)))=X/\K.f 0=.one (.ptr 1012 gr 0)/\K.f 6=.one (.ptr (B+6) (K.gen (B+6)) 0)/\K.f 11=.one (.d (.sl (l.map smD)))/\K.f 12=iv .i64 (z l)/\K.f 13=iv .i64 k/\K.f 33=.one (.d (.sl (es.map exD)))/\K.f 34=iv .i64 (z es)/\K.f 35=iv .i64 n/\
   K.obj (B+6)=S [.d (.int .i64 kind),.d (.str name),.d (.sl (es.map exD)),.d (.sl (th.map smD)),.d (.sl (el.map smD))]/\(∀j,j<B->K.gen j=g j/\K.obj j=ob j)/\(∀j,B+57<=j->K.obj j=N)) (z es) ?_ ?_
 .refine⟨0,rfl,by rw[D3];exact b,?_⟩
  simp only[go_sem,q0,W,A,q,n1,n2];exact⟨λj hj=>⟨nt ((fr j hj).1),nt ((fr j hj).2)⟩,λj hj=>nt (ar j hj)⟩
 clear q0 W A q fr ar or om I v r H;rintro m2 f g1 av ⟨n,hn,c,q0,q6,W,A,q,az,P,U,o6,fr,ar⟩;exact kt):P:=h
def k6{P:Prop}(h:P:=by
 obtain⟨v,U,h2⟩:=hv.get I;have af:i<z vs:=(l5.1 U).1
 have:(vs.toArray++Array.replicate (fn.ntmps-vs.toArray.size) undef).getD i undef=v:=by
  rw[z6,F8 (by simpa using af)];simp[U]
 rw[this];simpa only[A5]using h2):P:=h
def k9{P:Prop}(h:P:=by
 simp only[go_sem,hg,t];refine ck rfl (by simp only[go_sem];exact u _ _ (U.same (λi hi=>by (try simp only[upd]);repeat (rw[j8 (by omega)]);try rfl) (λi hi=>by (try simp only[upd]);repeat (rw[j8 (by omega)]);try rfl)) x) ?_;exact gD):P:=h
def la{P:Prop}(h:P:=by
 rintro _ g' Y ⟨rfl,rfl⟩;simp only[go_sem,A,hw];refine ah (m-1) a7 ⟨k+1,a7,?_⟩;simp only[go_sem,q1,q3,q5,q6,P,y,e1.1,e.1,e5.1,q.1,e1.2,e.2];refine⟨?_,?_,⟨M,rfl,I⟩,λj hj=>?_⟩
 .rw[kW _ he,<-F3,h5,jw,L]
  first|rfl|(simp;done)|(rw[x6];rfl)
 .rw[kW _ he,h6]
  rfl
 ·(try simp only[upd]);(repeat rw[j8 (by omega)])
  rw[(fr j (.inr a7)).2]
  (try simp only[upd]);(repeat rw[j8 (by omega)])
  exact ar j a7):P:=h
def lb{P:Prop}(h:P:=by
 refine⟨a7,?_⟩;simp only[go_sem,dx,cu];refine ah (m-1) a7 ⟨j+1,a7,?_⟩;simp only[go_sem,p0,p6,dc,dh,cu,n1,n3,m1,w,bl];refine⟨by rw[bs _ ft],gd.to (λi hi=>?_) (λi hi=>⟨?_,?_⟩),λi hi U h2 h3 h4 h5=>⟨?_,?_⟩⟩
 .exact nt (F5.ar.top i hi)
 .have:i≠B+8:=a7
  exact gT
 .have:i≠B+8:=a7
  have:i≠B+37:=a7;exact gT
 .exact nt ((O5 i hi U h2 h3 h4 h5).1)
 .exact nt ((O5 i hi U h2 h3 h4 h5).2)):P:=h
def ld{P:Prop}(h:P:=by
 refine⟨aZ b,F2 (aZ b).symm,?_⟩;refine mD (c:=c) (e1:=e1) (b0:=L) aa rfl hE h K1 hz.2 t1 (by simp only[go_sem,cT];rfl) loM (by omega:B<=B+232) (λi hi=>by simp only[upd];(repeat first|rw[j8 (by omega)]|rw[h.hi (by omega)]);exact h.free i (by omega)) λd a6 e2 I A2 K2=>?_;simp only[go_sem];refine⟨_,ae.refl _,?_⟩;simp only[go_sem];exact dv (w:=I) (e':=e2) (ad:=a6) (bd:=L) (r:=N) h loM ez ⟨d,a6,e2,I,t2 _ _ _ A2,K2,rfl,rfl,rfl⟩):P:=h
def ln{P:Prop}(h:P:=by
 intro g2 bo p2 q2 r2;simp only[go_sem];refine bH (λi=>decide (K<=i)) ?_;exact⟨rfl,bs _ _ _ p2⟩):P:=h
def lo{P:Prop}(h:P:=by
 obtain⟨fn,U,h2,h3⟩:=hp.1;have h2:¬fn.body=N:=by intro h;rw[h]at h2;simp at h2
 have h3:¬fn.name = "runtime.NumGoroutine":=by simpa using h3
 simp[execOp,ho,resolve,Act.eval,cx,Deferred.ofValue,invoke,callFunc,U,h2,h3]):P:=h
def lv{P:Prop}(h:P:=by
 obtain⟨fn,U,h2,h3⟩:=hp.1;have h2:¬fn.body=N:=by intro h;rw[h]at h2;simp at h2
 have h3:¬fn.name = "runtime.NumGoroutine":=by simpa using h3
 simp[execOp,ho,resolve,Act.eval,hv,Deferred.ofValue,invoke,callFunc,U,h2,h3]):P:=h
def l3{P:Prop}(h:P:=by
 have bs:∀i,i<ops.size->b.getD i T=T:=λi hi=>by
  have K:F∉b.toList:=λh=>by
   have:=Q1.2 h;omega
  rw[z6,B6 a7];simp only[A5];cases hq:b[i]'a7 with
  |true=>rfl
  |false=>exact absurd (hq▸P3.2 (R4 a7)) K
 have b7:Region.ready .any ops b=[]:=by
  unfold Region.ready;rw[Mp];intro i hi;simp[bs i (D5.1 hi)]
 exact⟨b7,hQ _ s β a w hI V X ⟨b,rfl,az,b7⟩⟩):P:=h
def mc{P:Prop}(h:P:=by
 refine cl aa rfl (u 2) (by simp only[go_sem];rfl) (B+65) a7 (λi hi=>nt (ar i a7)) ((E.mono hB fr).mono hB λi hi=>⟨nu,nu⟩) ?_;cases a:cA fs 2 es
 .rw[a]at b
  simp only[A7,D2]at b;subst b;exact dM
 rw[a]at b;simp only[x6]at b;simp only[go_sem,q0,q4,o4];refine cl aa rfl G (by simp only[go_sem];rfl) (B+65) a7 (λi hi=>nt (ar i a7)) ((E.mono hB fr).mono hB λi hi=>⟨nu,nu⟩) ?_;exact dT):P:=h
def mM{P:Prop}(h:P:=by
 obtain rfl:X=F:=by rw[<-hz];simp[bD,u]
 simp only[go_sem,j,u]):P:=h
def mS{P:Prop}(h:P:=by
 simp only[go_sem,j,u,b,c];by_cases a:(z kids:Int)=2
 case neg=>
  obtain rfl:X=F:=by
   have:¬z kids=2:=a7;rw[<-hz];simp[bD,this]
  simp only[go_sem,j6,a]
 simp only[go_sem,j6,a,b5];refine bJ rfl (by simp only[go_sem,b5];exact J) ?_;rintro _ rfl
 obtain rfl:X=bg (q+1) kids:=by
  have:z kids=2:=a7;rw[<-hz];simp[bD,am,a1,this,c,b,u]
 exact hx):P:=h
def nf{P:Prop}(h:P:=by
 have hw:=ac (k:=k) a7;by_cases af:k<z kids
 case neg=>
  have Q:¬(k:Int)<(z kids:Int):=a7;obtain rfl:k=z kids:=a7;rw[F9,cq]at b;exact ic
 have Q:(k:Int)<(z kids:Int):=a7;have bf:(0:Int)<=(k:Int):=a7;obtain⟨e,he⟩:=getq af;have a:=Src.LU (l6 he);have bd:kids.drop k=e::kids.drop (k+1):=by rw[C1 af,(l5.1 he).2]
 exact h1):P:=h
def nn{P:Prop}(h:P:=by
 simp only[go_sem];exact J):P:=h
def ns{P:Prop}(h:P:=by
 refine cl aa rfl h (by simp only[go_sem];rfl) (B+20) a7 (λi hi=>nt (hf i a7)) (E.mono hB λi hi=>⟨nu,nu⟩) ?_;simp only[go_sem];cases cA fs 1 kids
 .simp only[go_sem]
  exact gW
 .simp only[go_sem]
  refine⟨_,ae.refl _,?_⟩;simp only[go_sem];exact bi.nil (λi hi=>⟨nu,nu⟩) (o:=[iv .i64 1]) ⟨_,_,rfl,.one (.d _),rfl⟩ ⟨rfl,rfl,rfl⟩):P:=h
def n8{P:Prop}(h:P:=by
 have e:g1 (B+3)=l:=(K1.gen (B+3) a7 a7 a7).trans (by simp only[upd];rw[l8 trivial]);simp only[go_sem,c,e];refine aS aa rfl (mu hP 1 0 b9) (B+10) G D H u _ _ (by first|rfl|simp only[go_sem,c,e,bE]) b6 Q (by first|exact hl|((try simp only[ak,ao,aq,Emit.db,Emit.cP,j7,j9,l4]);omega)) (by first|exact hh|((try simp only[ak,ao,aq,Emit.db,Emit.cP,j7,j9,l4,s7]);omega)) ?_;exact gO):P:=h
def n9{P:Prop}(h:P:=by
 obtain rfl:X=F:=by rw[<-hz];simp[bD,b]
 simp only[go_sem,j,u,b]):P:=h
def oc{P:Prop}(h:P:=by
 obtain⟨v,U,h2⟩:=al _ _ hv i x I;have af:i<z vs:=(l5.1 U).1
 have:(vs.toArray++Array.replicate (fn.ntmps-vs.toArray.size) undef).getD i undef=v:=by
  rw[z6,F8 (by simpa using af)];simp[U]
 rw[this];simp only[A5];exact RV.rep x (RV.mono (λb hb=>⟨⟨hJ b hb,λ_=>hb,λid a ho=>by cases ho⟩,rfl⟩) x h2)):P:=h
def oj{P:Prop}(h:P:=by
 simp only[x7,w7,s9,v7]at u;subst u;simp only[go_sem,k3,k8,l,Z];exact r9):P:=h
def oo{P:Prop}(h:P:=by
 refine⟨_,ae.refl _,?_⟩;simp only[go_sem];exact bi.nil (λi hi=>⟨nt ((fr i hi).1),nt ((fr i hi).2)⟩) (o:=[bv F]) ⟨_,_,rfl,.one (.d _),rfl⟩ ⟨rfl,rfl,rfl⟩):P:=h
def ov{P:Prop}(h:P:=by
 simp only[x7,w7,s9,v7]at u;subst u;simp only[go_sem,k3,l,Z];exact r9):P:=h
def oy{P:Prop}(h:P:=by
 obtain⟨U,h2,h3⟩:=h;refine⟨U,C8 h2 (hk.gen id),λhg ho=>?_⟩;have e:g' id=g id:=P8 a7 (hk.gen id);obtain⟨l1,l2,_⟩:=hk.live id e ho;rw[l2];exact h3 a7 l1):P:=h
def oC{P:Prop}(h:P:=by
 have bd:(j:Int)<(z out:Int):=a7;have cv:(0:Int)<=(j:Int):=a7;obtain⟨v,hv⟩:=getq G;have dd:=al v (l6 hv);simp only[go_sem,x,I,K,U,bd,cv,hv,cu,j6];rw[C1 G,Emit.qx,show out[j]=v from(l5.1 hv).2]at O;refine dG (m-1) a7 ⟨j+1,max V v,a7,O,a7,a7,?_⟩;simp only[go_sem,f1,f2,f3,u,p,f4,x,I,o1,o2,B,r,az,q]):P:=h
def oL{P:Prop}(h:P:=by
 refine bJ rfl (by simp only[go_sem];exact hD) ?_;rintro _ rfl;simp only[go_sem,q1,q4,e,q5,h,q6,bf,G];refine⟨by simp only[j7,j9,cf];omega,by simp only[j7,j9,ad];omega,?_⟩;simp only[go_sem,q6,hw];refine cH m a7 ⟨k+1,a7,?_⟩;simp only[go_sem,q1,i,j,q4,q5];exact⟨by rw[c',b6],by rw[a1,t]⟩):P:=h
def oR{P:Prop}(h:P:=by
 refine⟨_,ae.refl _,?_⟩;simp only[go_sem,n1,n2];exact bi.nil (λi hi=>⟨by (try simp only[upd]);(repeat rw[j8 (by omega)]);first|done|rfl|exact(c i hi).1,by (try simp only[upd]);(repeat rw[j8 (by omega)]);first|done|rfl|exact(c i hi).2⟩) (o:=[rH (S t)]) ⟨_,_,rfl,Ec (thD t),rfl⟩ ⟨rfl,rfl,rfl⟩):P:=h
def o3{P:Prop}(h:P:=by
 simp only[go_sem,hg,t];exact⟨a7,bt (.inl rfl) (FrW.from (U.done (m':={m with steps:=m.steps+1,fin:=8}) t (λi hi=>by (try simp only[upd]);repeat (rw[j8 (by omega)]);try rfl) (λi hi=>by (try simp only[upd]);repeat (rw[j8 (by omega)]);try rfl) (by simp[upd]<;>rfl) rfl rfl λ_ _ _ V=>V.setFin 8) ar)⟩):P:=h
def p8{P:Prop}(h:P:=by exact⟨X,Y,U,λG bk=>by simp[execOp,h2 G bk],h3⟩):P:=h
def p9{P:Prop}(h:P:=by
 by_cases h2:x.op=3\/x.op=9\/x.op=13
 .omega
 by_cases h3:x.op=4\/x.op=7
 .omega
 by_cases h4:x.op=5
 .omega
 by_cases h5:x.op=6
 .omega
 by_cases h6:x.op=8
 .omega
 by_cases h7:x.op=10
 .omega
 by_cases h8:x.op=11
 .omega
 rw[j8 U,j8 h2,j8 h3,j8 h4,j8 h5,j8 h6,j8 h7,j8 h8]at h;cases h):P:=h
def qc{P:Prop}(h:P:=by
 rw[X i]at bo;refine⟨bo,rfl,λa' b' cu c0 cm U=>?_⟩;by_cases hb:a'.block=ad.block
 .rw[hb]at U|-
  rw[f1]at U;cases U;exact⟨arr,el,(H,hi),a6,a7⟩
 .rw[heap_setCells_other _ _ _ _ _ hb]at U
  exact⟨cu,c0,cm,U,l7 _⟩):P:=h
def qk{P:Prop}(h:P:=by
 obtain rfl:X=F:=by
  have:¬z e=1:=a7;rw[<-hz];simp[cp,this]
 simp only[go_sem,j6,hn]):P:=h
def qo{P:Prop}(h:P:=by
 refine⟨_,ae.refl _,?_⟩;simp only[go_sem];exact bi.nil (λi hi=>⟨nu,nu⟩) (o:=[iv .i64 2]) ⟨_,_,rfl,.one (.d _),rfl⟩ ⟨rfl,rfl,rfl⟩):P:=h
def q9{P:Prop}(h:P:=by
 intro r g1 av Q K1;simp only[go_sem];refine⟨_,ae.refl _,?_⟩;simp only[go_sem];exact ar.pack Q (v.trans (cD.down K1 a7)) rfl rfl (o:=[]) rfl):P:=h
def ra{P:Prop}(h:P:=by
 simp only[go_sem,hg,t,q,X,e];refine⟨a7,?_⟩;refine ck rfl (by simp only[go_sem];exact az _ _ (U.same (λi hi=>by (try simp only[upd]);repeat (rw[j8 (by omega)]);try rfl) (λi hi=>by (try simp only[upd]);repeat (rw[j8 (by omega)]);try rfl)) F) ?_;exact gD):P:=h
def r8{P:Prop}(h:P:=by
 simp only[go_sem,hg,t,q,X,e];refine⟨a7,?_⟩;refine ck rfl (by simp only[go_sem];exact az _ _ (U.same (λi hi=>by (try simp only[upd]);repeat (rw[j8 (by omega)]);try rfl) (λi hi=>by (try simp only[upd]);repeat (rw[j8 (by omega)]);try rfl)) T) ?_;exact gD):P:=h
def sc{P:Prop}(h:P:=by
 refine⟨y,Y,q1,λG bk=>?_,q3⟩;have q2:=q2 G bk;rw[g2]at q2;simp only[Sem.run_pure,Result.ok.injEq,L8]at q2;subst q2;simp[Instr.lookup,run_underlying L,MapKept.run_getObj_map (bk.cells a6),az,MapKept.run_findKey hk g1,b]):P:=h
def sn{P:Prop}(h:P:=by
 refine⟨y,Y,q1,λG bk=>?_,q3⟩;have q2:=q2 G bk;simp only[Sem.run_pure,Result.ok.injEq,L8]at q2;subst q2;have hf:(Instr.findKey r (dV A) []).run P G=.ok N G:=MapKept.run_findKey hk rfl;simp[Instr.lookup,run_underlying L,az,hf,b]):P:=h
def so{P:Prop}(h:P:=by
 have:(λi=>(Array.replicate ops.size F).getD i F)=λ_=>F:=by
  funext i;rw[z6,E4];split<;>rfl
 rw[this];exact h0):P:=h
def sr{P:Prop}(h:P:=by
 refine⟨0,rfl,⟨?_,?_,?_,?_,?_,?_,?_⟩,?_⟩<;>(simp only[go_sem,q1,q4,q5,q6,o1,o4,o5,u])
 .rfl
 .exact fr
 .exact⟨M,oM,I,l⟩):P:=h
def sT{P:Prop}(h:P:=by
 refine bZ x9 ?_;intro K' a';simp only[go_sem];refine a' _ ?_;clear a' K';simp only[go_sem,q,hw];refine ah (m-1) a7 ⟨k+1,a7,?_⟩;simp only[go_sem,q2,W,A,o2];refine⟨by rw[wi he],λj hj=>⟨nt ((fr j hj).1),nt ((fr j hj).2)⟩,λj hj=>nt (ar j hj)⟩):P:=h
def s8{P:Prop}(h:P:=by
 refine⟨by simp only[go_sem,q4],by simp only[go_sem,q5],by simp only[go_sem],by simp only[go_sem],by simp only[go_sem],by simp only[go_sem],by simp only[go_sem],λi hi af=>?_⟩;simp only[upd]
 (repeat rw[j8 (by omega)])
 exact⟨rfl,rfl⟩):P:=h
def tb{P:Prop}(h:P:=by exact .sl (sz:=sz) (λ_ _=>undef) a8 (λh=>absurd rfl h) (λ_ h=>by cases h) (λ_ _ h=>by cases h) (λ_ _ h=>by cases h)):P:=h
def ti{P:Prop}(h:P:=by
 simp only[upd,z6,M0];by_cases hj:i=j
 .subst hj;simp[az,b6]
 .have:¬j=i:=λe=>hj e.symm
  simp[hj,this]):P:=h
def tj{P:Prop}(h:P:=by exact wpIn_mono (hR al β a ds w Z V X) (λe a' G⟨W,A,a0,H,h0,U,h2,h3⟩=>⟨W,A,a0,H,h0,U.imp (J _ _) (λh=>h),h2,h3⟩)):P:=h
def tp{P:Prop}(h:P:=by
 have hi:¬(e1:Int)=0:=a7;simp only[go_sem,al,P,rnM,hi];refine⟨_,ae.refl _,?_⟩;simp only[go_sem];exact dv (w:=c) (e':=e1) (ad:=H) (bd:=L) (r:=N) h loM fG ⟨L,N,H,e1,c,er.mke (by rw[<-V,A1.en he];rfl) he,K1,rfl,rfl,rfl⟩):P:=h
def tz{P:Prop}(h:P:=by
 have b1:=(hT t (by rw[hd];rfl)).desc;rw[hd]at b1;refine fI h λw=>?_;rw[Sem.run_bind,ie _ _ _ _ _ _ a8 a8];simp only[binOp,Sem.run_bind,Result.andThen_ok,run_equal_bool b1,Sem.run_pure];cases a<;>cases b<;>rfl):P:=h
def tI{P:Prop}(h:P:=by
 exfalso;obtain⟨e,he,ho,bk⟩:=G i hi;obtain⟨e',cm,q,e1⟩:=G j hj;simp only[dst,ho,q,J4]at U h2;rcases(a1 i e hi ho bk).2.1 j e'.o hj a7 q with h|h
 .rw[h]at h2;cases h2
 .exact h (by rw[U,h2])):P:=h
def uo{P:Prop}(h:P:=by
 obtain rfl:X=F:=by
  have:¬kids=[]:=λe=>a (by rw[e];rfl);rw[<-hz];simp[bD,this]
 simp only[go_sem,j6,a]):P:=h
def u0{P:Prop}(h:P:=by
 refine runM (s:=⟨_,_,_⟩) (G:=G) (e:=0) (q:=N) (bd:=L) h rfl ⟨rfl,rfl,rfl⟩ λi hi=>?_;have hk:∀k,(i=B+k)=False:=λk=>by simp;omega
 have:=h.same i;simp only[upd,hk,A8]at this|-;exact this):P:=h
def u1{P:Prop}(h:P:=by
 simp only[SSM,C4,A3,A9,E6,E3,D5]at hi;rcases hi with hi|⟨k,hk,rfl⟩<;>omega):P:=h
def u2{P:Prop}(h:P:=by
 refine⟨h.1,h0.2.1,λhg ho=>?_⟩;obtain⟨l1,l2,y⟩:=hl id ho;rw[<-l2];exact h.2.2 (by rw[l1];exact hg) y):P:=h
def u6{P:Prop}(h:P:=by
 refine vG (λi=>p i=T) rfl (λi=>.inl rfl) (λi m Z=>?_);simp only at Z;by_cases h:p i=T
 .rw[l8 h]at Z;cases Z
 .rw[j8 h]at Z
  exact⟨h,m,Z,rfl,λj c c' e1 e2=>.inl (by rw[e1]at e2;exact(G6 e2).symm)⟩):P:=h
def vi{P:Prop}(h:P:=by exact fy cf ⟨av.defers,hn _ β _ w rfl av (a6 _ _ _ _ _ _ _ X (Tr.same (St.put_gen _ _ _) (St.put_obj _ _ _) rfl))⟩):P:=h
def vr{P:Prop}(h:P:=by
 simp only[go_sem,l4,w9];refine aw (λm K=>m=0/\K.f 14=.one (.d (.sl []))/\K.f 15=iv .i64 0/\K.f 16=iv .i64 0) 0 ?_ ?_
 .exact hx
 rintro m f g1 av ⟨rfl,E,n,A⟩;simp only at E n A;simp only[go_sem,E,n,A]):P:=h
def wa{P:Prop}(h:P:=by
 refine ah (m-1) a7 ⟨k+1,a7,⟨?_,?_,?_,?_,?_,?_,?_⟩,?_⟩<;>(simp only[go_sem,q1,q4,q5,q6,o1,o4,A,e])
 .rw[hT,jG]
 .exact λi hi=>⟨nt ((fr i hi).1),nt ((fr i hi).2)⟩
 .exact⟨y,rfl,by rw[hT];exact o,t⟩):P:=h
def wk{P:Prop}(h:P:=by
 by_cases u:op=0
 case neg=>
  exact mM
 by_cases b:num=0
 case neg=>
  exact n9
 by_cases c:name=[]
 case neg=>
  obtain rfl:X=F:=by rw[<-hz];simp[bD,am,c]
  simp only[go_sem,j,u,b,c]
 exact mS):P:=h
def w5{P:Prop}(h:P:=by
 rw[hq]at Z;simp only[z7,v7]at Z;subst Z;refine⟨_,rfl,?_⟩;simp only[ay];exact ce.of_plain (by have:=b1.plain;rw[y8]at this;exact this x (l6 hq))):P:=h
def xc{P:Prop}(h:P:=by
 unfold Src.ij at this;simp at this;omega):P:=h
def x2{P:Prop}(h:P:=by
 refine ah (m-1) a7 ⟨k+1,a7,⟨?_,?_,?_,?_,?_,?_,?_⟩,?_⟩<;>(simp only[go_sem,q1,q4,q5,q6,o1,o4,A,e])
 .rw[hT,jG]
 .exact λi hi=>⟨(fr i hi).1,nt ((fr i hi).2)⟩
 .exact⟨y,rfl,by rw[hT];exact o,t⟩):P:=h
def ys{P:Prop}(h:P:=by
 have Q:¬(k:Int)<(z l:Int):=a7;rw[y9 a7]at Z;obtain rfl:X=T:=Z.symm;simp only[go_sem,q1,q5,Q,j6]):P:=h
def y1{P:Prop}(h:P:=by
 have U:=Src.QD x.word x.body;have h2:=Src.LT (λx:Src.CFn=>Src.mZ x.body) I;have h3:((ab p).funcs.map λx=>Src.mZ x.body).sum=(p.funcs.map λf=>Src.aD f.body).sum:=Src.zX _ _ _;unfold Emit.bW;omega):P:=h
def y2{P:Prop}(h:P:=by
 intro g1 av p1 q1 r1;simp only[go_sem];refine iE (λi=>decide (K<=i)) ?_;exact⟨rfl,p1.fin J⟩):P:=h
def zs{P:Prop}(h:P:=by exact⟨av.defers,v,U,v,r,rfl,h2,ht.size,λb hb=>ht.old b hb,ht.os,h3⟩):P:=h
def zv{P:Prop}(h:P:=by
 simp only[u7,C3,A6]at this|-;exact this):P:=h
def z8{P:Prop}(h:P:=by exact⟨_,dE (k:=0) (v:=0) (e:=3),rfl⟩):P:=h
def Bc{P:Prop}(h:P:=by
 refine⟨_,ae.refl _,?_⟩;simp only[go_sem];exact ar.pack Q (K1.down a7) rfl rfl (o:=[]) rfl):P:=h
def B2{P:Prop}(h:P:=by
 rintro _ rfl;unfold qF eZ;simp only[go_sem];exact⟨_,tc,rfl⟩):P:=h
def K0{P:Prop}(h:P:=by
 subst h hn;exact⟨rfl,⟨gt 0 1 rfl b9 a7 a8 (by rw[hT];congr 1;omega),trivial⟩,λh=>h.1⟩):P:=h
def K3{P:Prop}(h:P:=by
 simp only[go_sem]at J|-;refine oU aa rfl hF (by simp only[go_sem]) (B:=B+232) (λi hi=>by simp only[upd];(repeat rw[j8 (by omega)]);exact h.free i (by omega)) ?_;exact nn):P:=h
def K6{P:Prop}(h:P:=by
 rw[s6 (l7 _),hL]at o5 I;simp only[go_sem,e,a,Q];refine aF c8 ?_;simp only[go_sem,q4,q5,o4,o5];refine⟨_,ae.refl _,?_⟩;simp only[go_sem];exact⟨rfl,⟨M,oM,I,l⟩,fr⟩):P:=h
def Lm{P:Prop}(h:P:=by
 refine⟨_,ae.refl _,?_⟩;simp only[go_sem];exact rU (qR) rfl):P:=h
def Lw{P:Prop}(h:P:=by
 refine⟨0,0,rfl,rfl,C5 _,b9,?_⟩;simp only[go_sem,f1,f2,f3,u,p,f4,o1,o2];refine⟨?_,?_,?_⟩
 .rw[s6 a7,uB];rfl
 .rw[s6 a7,kJ];rfl
 .rw[s6 a7,kJ];rfl):P:=h
def Mi{P:Prop}(h:P:=by
 refine⟨0,rfl,⟨?_,?_,?_,?_,?_,?_,?_⟩,?_⟩<;>(simp only[go_sem])
 .rfl
 .rfl
 .exact λi hi=>⟨nu,nu⟩
 .exact⟨[],rfl,λs=>rfl,λc Z=>by cases Z⟩):P:=h
def Mo{P:Prop}(h:P:=by
 refine⟨_,ae.refl _,?_⟩;simp only[go_sem,n1,n2];exact bi.nil (λi hi=>⟨nu,nu⟩) (o:=[.agg ((plD t).map .d)]) ⟨_,_,rfl,Ec (plD t),rfl⟩ ⟨rfl,rfl,rfl⟩):P:=h
def R0{P:Prop}(h:P:=by
 simp only[Oper.upon];have:=hp.2 O al β a s.f w (args.toList.map a.eval) V (iS V _);rw[show (args.toList.map a.eval).toArray=args.map a.eval from Jf a8]at this;exact gH):P:=h
def R1{P:Prop}(h:P:=by
 simp only[St.newC,upd];split
 .rename_i he;subst he;exact O8 (tn _ _)
 .exact l7 _):P:=h
def R2{P:Prop}(h:P:=by exact wp_mono (hR O al β a w Z V) (λe a' G⟨W,A,U,h2,h3⟩=>⟨W,A,J _ _ U,h2,h3⟩)):P:=h
def R3{P:Prop}(h:P:=by
 refine aF c8 ?_;simp only[go_sem,q6,q7,h,az,u24,u23,A,E,cm];refine⟨l7 _,?_⟩;rw[s6 a7,HX];simp only[go_sem,wx,q6,q7,h,u24,A,E];exact⟨_,CT,rfl⟩):P:=h
def Sz{P:Prop}(h:P:=by
 obtain⟨j,t⟩:=p;rw[hg]at cd;obtain⟨d,hj,hb⟩:=cd;have hy:=V.yielded hj hb;simp[Region.wanted,hg,hy]):P:=h
def SA{P:Prop}(h:P:=by
 obtain⟨k,t,v⟩:=y;rw[uP];simp only[go_sem];exact⟨_,dE (e:=0),rfl⟩):P:=h
def SB{P:Prop}(h:P:=by
 refine⟨_,ae.refl _,?_⟩;simp only[go_sem];exact bi.use (λi hi h5 h6=>⟨(fr i hi).1,(fr i hi).2 h5 h6⟩) (fr 5 a7).1 (fr 6 a7).1 o5 o6 (o:=[]) rfl):P:=h
def SC{P:Prop}(h:P:=by
 obtain rfl:X=F:=by rw[<-hz];simp[cp,am,c,dJ]
 simp only[go_sem,j6,j,a6,G,c]):P:=h
def SD{P:Prop}(h:P:=by
 refine this.mono λe G⟨v,r,g',Y,A,he,hR,hv,U,h2,h3⟩=>?_;subst he;obtain⟨k1,k2⟩:=iD V c hv U h2 h3;exact hn _ A _ G ⟨r,g',Y,hR,rfl⟩ k1 k2):P:=h
def SE{P:Prop}(h:P:=by
 rcases m e (by simpa using he)with h|h
 .rw[hb]at h;cases h
 .exact h):P:=h
def SF{P:Prop}(h:P:=by
 rintro _ rfl;exact nn):P:=h
def SG{P:Prop}(h:P:=by
 simp only[ag,ay];exact⟨rfl,hv.2.1,λ_ _=>⟨ad,p,b5,by simp[C0]⟩⟩):P:=h
def SH{P:Prop}(h:P:=by exact⟨_,⟨_,⟨_,_,rfl,ke .nsl,_,_,rfl,ke _,_,_,rfl,ke _,rfl⟩,rfl⟩,rfl⟩):P:=h
def SI{P:Prop}(h:P:=by
 obtain rfl:X=F:=by rw[<-hz];simp[bD,am,c,dJ]
 simp only[go_sem,j,u,b,c]):P:=h
def SJ{P:Prop}(h:P:=by
 unfold je;split
 .rename_i hm
  simp only[A3,A9,E6]at hm;rcases hm with rfl|rfl
  .exact gT
  .exact absurd rfl hi
 .rfl):P:=h
def SK{P:Prop}(h:P:=by
 rcases A1.then A2 with⟨h0,_⟩|⟨_,⟨U,h2,_⟩|⟨U,_⟩⟩
 .exact absurd h0 he
 .rw[<-V,U];simp only[Rs.bind,h2]
 .rw[<-V,U];rfl):P:=h
def SL{P:Prop}(h:P:=by exact h.elim):P:=h
def SM{P:Prop}(h:P:=by
 rcases this with((h|h)|h)|h
 .exact .inl h
 .exact .inr (.inl h)
 .exact .inr (.inr h)
 .rw[Js.2 b4]at h;cases h):P:=h
def SN{P:Prop}(h:P:=by exact⟨y,Y,U,λG bk=>by simp[execOp,h2 G bk],h3⟩):P:=h
def SP{P:Prop}(h:P:=by refine⟨⟨by rw[setCells_size];exact hb.1,hb.2.1,λi a' bo=>hb.2.2 i a' (by rw[<-X i];exact bo)⟩,heap_setCells_other _ _ _ _ _ bz⟩):P:=h
def SQ{P:Prop}(h:P:=by
 cases Z;simp only[rnM,A3,A9,E6]at E;rcases E with rfl|rfl|rfl|rfl|rfl|rfl|rfl|rfl|rfl|rfl|rfl<;>first|trivial|(show _<B;omega)):P:=h
def SS{P:Prop}(h:P:=by exact kq hT rest hp g h (λs2 ad a2 w2 k1 k2 k3=>hQ _ _ _ _ k1 k2 (Tr.trans (Tr.same (by rw[St.put_gen]) (by rw[St.put_obj]) rfl) k3))):P:=h
def SV{P:Prop}(h:P:=by simpa using this):P:=h
def SW{P:Prop}(h:P:=by simp only[go_sem,q1,o1]):P:=h
def SX{P:Prop}(h:P:=by
 simp only[go_sem,e1,e2,l,hl];refine bJ rfl (by simp only[go_sem];exact h3 F) ?_;rintro _ rfl;simp only[go_sem,hl]):P:=h
def SY{P:Prop}(h:P:=by
 simp only[go_sem,e1,e2,l,hl];refine bJ rfl (by simp only[go_sem];exact h3 T) ?_;rintro _ rfl;simp only[go_sem,hl]):P:=h
def SZ{P:Prop}(h:P:=by
 refine⟨_,ae.refl _,?_⟩;simp only[go_sem];exact uO h loM ez ⟨v,G,0,_,dW.mk V.symm,h.okm,rfl,rfl,rfl⟩):P:=h
def S1{P:Prop}(h:P:=by exact fN hT c rest L g hp.2 h (λs2 a2 k1 k2 k3=>hQ _ _ k1 k2 (Tr.trans (Tr.same (by rw[St.put_gen]) (by rw[St.put_obj]) rfl) k3))):P:=h
def S3{P:Prop}(h:P:=by exact gL hT c rest L g hp.2 h (λs2 a2 k1 k2 k3=>hQ _ _ k1 k2 (Tr.trans (Tr.same (by rw[St.put_gen]) (by rw[St.put_obj]) rfl) k3))):P:=h
def S4{P:Prop}(h:P:=by
 subst he;obtain⟨k1,k2⟩:=iD V c hv U h2 h3;exact⟨k1.defers,hn _ A _ G ⟨r,g',Y,hR,rfl⟩ k1 (a6 _ _ _ _ _ _ _ X k2)⟩):P:=h
def S6{P:Prop}(h:P:=by
 obtain rfl:X=0:=by rw[<-hz,hw];simp
 exact hx):P:=h
def S7{P:Prop}(h:P:=by
 have:=ol b0 b8 j e2.o b6 (λe' cm bn=>b8 j _ x b6 e' cm bn) i h;rw[hL]at this;exact absurd this.1 a8):P:=h
def S8{P:Prop}(h:P:=by exact XR.cast this (by simp only[j7,j9,l4];omega)):P:=h
def S9{P:Prop}(h:P:=by
 refine⟨0,rfl,?_⟩;simp only[St.grab];simp only[go_sem];exact⟨rfl,λj hj=>⟨nu,nu⟩,λj hj=>nt (hB j a7)⟩):P:=h
def T0{P:Prop}(h:P:=by
 refine⟨0,rfl,by rw[D3];exact hz,?_⟩;simp only[go_sem];exact⟨λj hj=>⟨nu,nu⟩,λj hj=>nt (hf j a7)⟩):P:=h
def T6{P:Prop}(h:P:=by
 simp only[s5]at this;have h2:=this.1.1;simp only at cc;rw[<-cc,dJ]at h2;cases h2):P:=h
def T7{P:Prop}(h:P:=by
 simp only[go_sem,Z,V,q1,q2,q3,q7,q8];exact ib):P:=h
def T8{P:Prop}(h:P:=by
 rw[uQ];simp only[go_sem];exact⟨_,dE (k:=0) (v:=0),rfl⟩):P:=h
def T9{P:Prop}(h:P:=by
 exact this.imp λv ad this=>by
  exact⟨this.1,this.2.1,this.2.2.1,by have:=this.2.2.2;simp only at this;omega⟩):P:=h
def Uf{P:Prop}(h:P:=by obtain⟨_,_,_,_,_,h⟩:=an;rcases h with⟨h,_⟩|⟨h,_⟩|⟨h,_⟩|⟨h,_⟩|⟨h,_⟩|⟨h,_⟩|⟨_,h⟩<;>omega):P:=h
def Uh{P:Prop}(h:P:=by
 have:=y8.1 ar ops[i] (G8 b6);rw[hd]at this;exact SV):P:=h
def Ul{P:Prop}(h:P:=by exact fF h (λw=>by simp[Builtin.len_,run_underlying L,goInt])):P:=h
def Uq{P:Prop}(h:P:=by
 rw[l8 hw]at h;rw[l8 (by simp[Region.wanted,hg,hy,hw])];exact u av (Tr.same rfl rfl rfl) h):P:=h
def Ur{P:Prop}(h:P:=by
 obtain⟨k,rfl⟩:∃k,op=k+1:=⟨op-1,a7⟩
 have:z names<=k:=by show 27<=k;omega
 simp[nameOf,this]):P:=h
def Ut{P:Prop}(h:P:=by
 rw[p]at b4;obtain⟨rfl,rfl⟩:=b4;have:es=[]:=y7 hlen;subst this;exact .sl0):P:=h
def Uu{P:Prop}(h:P:=by
 refine⟨0,a,b,rfl,by rw[D3];exact bk,by rw[D3];exact ad,?_⟩;simp only[go_sem,hn,L];exact λj hj=>hB j a7):P:=h
def Uv{P:Prop}(h:P:=by
 have Q:¬(k:Int)<(z l:Int):=a7;rw[y9 a7]at Z;obtain rfl:X=T:=Z.symm;simp only[go_sem,q0,q5,Q,j6]):P:=h
def Uw{P:Prop}(h:P:=by
 simp only[go_sem,Z,V,q1,q2,q6,q7];exact ib):P:=h
def Ux{P:Prop}(h:P:=by
 obtain rfl:X=F:=by
  have:¬z kids=1:=a7;rw[<-hz];simp[bD,this]
 simp only[go_sem,j6,a]):P:=h
def Uy{P:Prop}(h:P:=by
 obtain⟨n,hn⟩:∃n,Op.maxDepth=n+1:=⟨_,rfl⟩
 unfold Op.equal;rw[hn,Op.equalIn];simp[run_underlying L]):P:=h
def Uz{P:Prop}(h:P:=by (repeat' first|assumption|apply A0)):P:=h
def UA{P:Prop}(h:P:=by
 obtain rfl:X=F:=by rw[<-hz];simp[bD,am,an]
 exact hx):P:=h
def UB{P:Prop}(h:P:=by
 obtain rfl:X=F:=by rw[<-hz];simp[cp,am,an]
 exact hx):P:=h
def UC{P:Prop}(h:P:=by exact gy hT rest L g hp.2 h (λs2 a2 k1 k2 k3 k4=>hQ _ _ k1 k2 (by rw[k3,St.put_gen]) (by rw[k4,St.put_obj]))):P:=h
def UD{P:Prop}(h:P:=by
 rw[hg]at h;simp only at h;rw[l8 (by simp[Region.wanted,hg])];exact u V Tr.refl h):P:=h
def UE{P:Prop}(h:P:=by
 refine⟨0,rfl,a8,?_⟩;exact hx):P:=h
def UF{P:Prop}(h:P:=by
 obtain⟨cells,Z⟩:=Mj.1 hi;have:=V.obj i cells Z;rw[b']at this;exact this.block.2):P:=h
def UG{P:Prop}(h:P:=by exact dW.mke (by rw[<-V,A1.en he];rfl) he):P:=h
def UH{P:Prop}(h:P:=by
 unfold inW;cases b
 .exact hx
 .simp only[go_sem]
  exact⟨λh=>by simp[h],λh=>by simp[h]⟩):P:=h
def UI{P:Prop}(h:P:=by
 have bo:z args<=i:=by simpa using I
 exact hK):P:=h
def UJ{P:Prop}(h:P:=by
 rw[M8 (B8 r)]at hk;obtain⟨v,hv,X⟩:=g5 k c hk;exact⟨v,hv,X.keep q⟩):P:=h
def UK{P:Prop}(h:P:=by
 subst h hn;exact⟨rfl,⟨gt 1 1 rfl b9 a7 a8 (by rw[hT];congr 1;omega),trivial⟩,λh=>h.1⟩):P:=h
def UL{P:Prop}(h:P:=by
 have bo:z xs<=i:=by simpa using I
 exact hK):P:=h
def UM{P:Prop}(h:P:=by
 rw[hq]at Z;simp only[z7,v7]at Z;subst Z;exact e3 j x hq):P:=h
def UN{P:Prop}(h:P:=by
 obtain⟨u,L,f⟩:=ca _ _ (Z m x I);exact⟨u,by rw[fg a6,C0];exact L,ih m x I f⟩):P:=h
def UO{P:Prop}(h:P:=by
 rw[z6,B6 a7]at y;rw[B6 a7];simpa using y):P:=h
def UP{P:Prop}(h:P:=by simp only[go_sem,q0]):P:=h
def UQ{P:Prop}(h:P:=by
 simp only[l9,A3,R7]at hv;simp only[maskm,upd];rw[j8 hv.1];exact ih hv.2):P:=h
def UR{P:Prop}(h:P:=by
 have h3:¬fnD.name = "runtime.NumGoroutine":=by simpa using k
 simp[invoke,callFunc,hf,hb,h3]):P:=h
def US{P:Prop}(h:P:=by
 exact this.imp λv ad this=>by
  exact⟨this.1,this.2.1,this.2.2.1,C8 a4 this.2.2.2⟩):P:=h
def U0{P:Prop}(h:P:=by
 rintro _ rfl;simp only[go_sem,q7,hw];refine bN af ⟨_,Z,a7,?_⟩;simp only[go_sem,q0,q2]):P:=h
def U1{P:Prop}(h:P:=by
 rcases A1.then A2 with⟨_,U,h2,_⟩|⟨h0,_⟩
 .exact⟨U,h2⟩
 .exact absurd rfl h0):P:=h
def U2{P:Prop}(h:P:=by
 rw[e1];exact⟨a7,⟨b9,a7⟩,J⟩):P:=h
def U3{P:Prop}(h:P:=by
 simp only[go_sem]at J|-;refine cG rfl (by simp only[go_sem];exact hF) ?_;exact SF):P:=h
def U4{P:Prop}(h:P:=by exact fy (by simp[execOp,h2]) (hn _ _ _ _ U h3 h4)):P:=h
def U5{P:Prop}(h:P:=by
 rintro m f g1 av ⟨k,hk,b,q0,W,A,q,fr,ar⟩;simp only at q0 W A q fr ar;exact nf):P:=h
def U6{P:Prop}(h:P:=by simp only[upd];rw[l8 trivial];simp only[br.cells,br.at,hQ.s,hQ.ds,hQ.bk,hQ.b,hQ.e,hQ.p,ksD]):P:=h
def U7{P:Prop}(h:P:=by exact⟨X,Y,U,λG bk=>by rw[Sem.run_bind,ie _ _ _ _ _ _ a8 a8];simpa using h2 G bk,h3⟩):P:=h
def U8{P:Prop}(h:P:=by
 have:=V.2.2 f hf;unfold Src.fp at this;simp only[s5,B4]at this;exact this.1.2):P:=h
def U9{P:Prop}(h:P:=by exact⟨W,A,a0,H,rfl,.inr ⟨ch,rfl,U⟩,h2,h3⟩):P:=h
def Vr{P:Prop}(h:P:=by
 refine⟨0,rfl,by rw[D3];exact hz,?_⟩;simp only[go_sem];exact λj hj=>hf j a7):P:=h
def Vs{P:Prop}(h:P:=by
 by_cases h:l=[]
 .exact .inl h
 .exact .inr ⟨l.dropLast,l.getLast h,(M1 h).symm⟩):P:=h
def Vt{P:Prop}(h:P:=by
 rw[hq]at hs;cases hs;have:=J hq;simp only at this;omega):P:=h
def Vu{P:Prop}(h:P:=by
 rw[l8 h];have hi:¬(e:Int)=0:=a7;simp only[go_sem,hi];exact⟨_,nP,rfl⟩):P:=h
def Vv{P:Prop}(h:P:=by cases a.testBit i<;>cases b.testBit i<;>rfl):P:=h
def Vw{P:Prop}(h:P:=by simp only[go_sem,q0,q1,q5,al,P,o5]):P:=h
def Vx{P:Prop}(h:P:=by
 simp only[go_sem,f1,f2,f3,u,f4,o1,o2,r,az,q];exact⟨_,_,_,_,rfl,rfl,rfl,rfl⟩):P:=h
def Vy{P:Prop}(h:P:=by simp only[go_sem]):P:=h
def Vz{P:Prop}(h:P:=by simp only[go_sem,n1,n2]):P:=h
def VA{P:Prop}(h:P:=by simp only[upd];rw[l8 trivial]):P:=h
def VB{P:Prop}(h:P:=by first|(simp[upd];done)|(simp only[upd];exact nt (hn))):P:=h
def VC{P:Prop}(h:P:=by simp;omega):P:=h
def VD{P:Prop}(h:P:=by first|(simp[upd];done)|(simp only[upd];exact nt (L))):P:=h
def VE{P:Prop}(h:P:=by simp only[go_sem,n1,n2];all_goals rfl):P:=h
def VF{P:Prop}(h:P:=by simp[upd]):P:=h
def VG{P:Prop}(h:P:=by simp only[go_sem];rfl):P:=h
def VH{P:Prop}(h:P:=by first|rfl|simp only[go_sem,A,bE]):P:=h
def VI{P:Prop}(h:P:=by first|exact hl|((try simp only[ak,ao,aq,Emit.db,Emit.cP,j7,j9,l4]);omega)):P:=h
def VJ{P:Prop}(h:P:=by first|exact hh|((try simp only[ak,ao,aq,Emit.db,Emit.cP,j7,j9,l4,s7]);omega)):P:=h
def VK{P:Prop}(h:P:=by simp only[go_sem];exact cB ho name F):P:=h
def VL{P:Prop}(h:P:=by simp only;omega):P:=h
def VM{P:Prop}(h:P:=by simp only[go_sem,cT];rfl):P:=h
def VN{P:Prop}(h:P:=by simp only[St.claimAt];simp only[go_sem]):P:=h
def VO{P:Prop}(h:P:=by simp only[go_sem,n1,n2,ho]):P:=h
def VP{P:Prop}(h:P:=by first|rfl|simp only[go_sem,c,e,bE]):P:=h
def VQ{P:Prop}(h:P:=by first|exact hl|((try simp only[ak,ao,aq,Emit.db,Emit.cP,j7,j9,l4]);omega)):P:=h
def VR{P:Prop}(h:P:=by first|exact hh|((try simp only[ak,ao,aq,Emit.db,Emit.cP,j7,j9,l4,s7]);omega)):P:=h
def VS{P:Prop}(h:P:=by have:=ar.pc;simp only[j9,l4]at hp;omega):P:=h
def VT{P:Prop}(h:P:=by simp only[go_sem];exact hT):P:=h
def VU{P:Prop}(h:P:=by simp only[go_sem];exact hL):P:=h
def VV{P:Prop}(h:P:=by first|omega|(simp only;omega)):P:=h
def VW{P:Prop}(h:P:=by simp[ho]):P:=h
def VX{P:Prop}(h:P:=by simp[Region.wanted,hg,hy,hw]):P:=h
def VY{P:Prop}(h:P:=by simp only[go_sem];exact cB ho name T):P:=h
def VZ{P:Prop}(h:P:=by first|rfl|simp only[go_sem]):P:=h
def V0{P:Prop}(h:P:=by simp only[bu,j7,j6,j9,l4];omega):P:=h
def V1{P:Prop}(h:P:=by simp only[ao,j7,j9,l4];omega):P:=h
def V2{P:Prop}(h:P:=by rw[H];simp only[j9,l4];omega):P:=h
def V3{P:Prop}(h:P:=by simp[Tryz.ntmps178]):P:=h
def V4{P:Prop}(h:P:=by simp only[j7,j9];omega):P:=h
def V5{P:Prop}(h:P:=by simp only[go_sem,n1,n2,jH]):P:=h
def V6{P:Prop}(h:P:=by simp only[go_sem];exact iY name):P:=h
def V7{P:Prop}(h:P:=by simp only[ao,s7,l4];omega):P:=h
def V8{P:Prop}(h:P:=by rw[hd];rfl):P:=h
def V9{P:Prop}(h:P:=by simp[Tryz.ntmps141]):P:=h
def Wa{P:Prop}(h:P:=by first|exact d.2.2.2|(simp[d.2.2.2])):P:=h
def Wb{P:Prop}(h:P:=by first|exact d.2.2.1|(simp[d.2.2.1])):P:=h
def Wc{P:Prop}(h:P:=by simp only[go_sem];rw[<-cf]):P:=h
def Wd{P:Prop}(h:P:=by simp only[go_sem];exact hN):P:=h
def We{P:Prop}(h:P:=by simp[I]):P:=h
def Wf{P:Prop}(h:P:=by simpa using hl):P:=h
def Wg{P:Prop}(h:P:=by subst e;rw[u51]at hu;cases hu):P:=h
def Wh{P:Prop}(h:P:=by subst e;rw[u49]at hu;cases hu):P:=h
def Wi{P:Prop}(h:P:=by subst e;rw[u54]at hu;cases hu):P:=h
def Wj{P:Prop}(h:P:=by subst e;rw[u52]at hu;cases hu):P:=h
def Wk{P:Prop}(h:P:=by simpa using I):P:=h
def Wl{P:Prop}(h:P:=by simpa using h):P:=h
def WG{P:Prop}(h:P:=by simpa using hi):P:=h
def WH{P:Prop}(h:P:=by simp only[go_sem];exact hB):P:=h
def WI{P:Prop}(h:P:=by simp[Region.wanted,hg,hy]):P:=h
def WJ{P:Prop}(h:P:=by first|rfl|simp only[go_sem,j,m,bE]):P:=h
def WK{P:Prop}(h:P:=by first|exact hl|((try simp only[ak,ao,aq,Emit.db,Emit.cP,j7,j9,l4]);omega)):P:=h
def WL{P:Prop}(h:P:=by first|exact hh|((try simp only[ak,ao,aq,Emit.db,Emit.cP,j7,j9,l4,s7]);omega)):P:=h
def WM{P:Prop}(h:P:=by simp only[go_sem,sO];rfl):P:=h
def WN{P:Prop}(h:P:=by simp[Tryz.ntmps81]):P:=h
def WO{P:Prop}(h:P:=by have:=(l5.1 hf).1;omega):P:=h
def WQ{P:Prop}(h:P:=by simp[next]):P:=h
def WR{P:Prop}(h:P:=by rw[hm.pc];exact I):P:=h
def WT{P:Prop}(h:P:=by simp only[go_sem];exact ci rfl):P:=h
def WU{P:Prop}(h:P:=by obtain⟨b,rfl,e1,e2⟩:=h6;exact rf K e1 e2):P:=h
def WV{P:Prop}(h:P:=by simp only[go_sem,b5];exact J):P:=h
def WW{P:Prop}(h:P:=by simp only[go_sem,q6]):P:=h
def WX{P:Prop}(h:P:=by simp only[go_sem,q0]):P:=h
def WY{P:Prop}(h:P:=by simp[e]):P:=h
def WZ{P:Prop}(h:P:=by simp only[go_sem];exact dd _ _ (e1 _) (by simp only[upd];(repeat rw[j8 E.2]);exact K)):P:=h
def W0{P:Prop}(h:P:=by simp only[go_sem];exact hS):P:=h
def W1{P:Prop}(h:P:=by simp only[go_sem];exact hE):P:=h
def W2{P:Prop}(h:P:=by simp only[go_sem];exact xz):P:=h
def W3{P:Prop}(h:P:=by simp only[go_sem];exact xA):P:=h
def W4{P:Prop}(h:P:=by simp only[go_sem];exact hW):P:=h
def W5{P:Prop}(h:P:=by simp only[go_sem];exact hD):P:=h
def W6{P:Prop}(h:P:=by simp[aM,ho]):P:=h
def W7{P:Prop}(h:P:=by have:=h.sm.a;omega):P:=h
def W8{P:Prop}(h:P:=by simp only[go_sem];rw[<-cf];exact Ba _):P:=h
def W9{P:Prop}(h:P:=by have:=nM hs;omega):P:=h
def Xa{P:Prop}(h:P:=by rw[ho];rfl):P:=h
def Xb{P:Prop}(h:P:=by rw[h.len];decide):P:=h
def Xc{P:Prop}(h:P:=by first|rfl|simp only[go_sem,p,s,bE]):P:=h
def Xd{P:Prop}(h:P:=by first|exact hl|((try simp only[ak,ao,aq,Emit.db,Emit.cP,j7,j9,l4]);omega)):P:=h
def Xe{P:Prop}(h:P:=by first|exact hh|((try simp only[ak,ao,aq,Emit.db,Emit.cP,j7,j9,l4,s7]);omega)):P:=h
def Xh{P:Prop}(h:P:=by omega):P:=h
def Xi{P:Prop}(h:P:=by simp[hz]):P:=h
def Xj{P:Prop}(h:P:=by simp only[ak,ao,u7]):P:=h
def Xl{P:Prop}(h:P:=by rw[o];simp only[bL,j6];omega):P:=h
def Xm{P:Prop}(h:P:=by rw[I];exact hw b G D H u code holes s.gen s.obj ar hg hl a):P:=h
def Xn{P:Prop}(h:P:=by simp only[go_sem];exact hF):P:=h
def Xo{P:Prop}(h:P:=by simp only[go_sem];exact hR):P:=h
def Xp{P:Prop}(h:P:=by simp only[go_sem];exact hP):P:=h
def Xq{P:Prop}(h:P:=by simp only[go_sem];exact hG):P:=h
def Xr{P:Prop}(h:P:=by simp only[ao,j9,l4];omega):P:=h
def Xs{P:Prop}(h:P:=by simp only[ak,ao,aq,Emit.db,Emit.cP,j7,j9,l4,u7,s7,A6]):P:=h
def Xt{P:Prop}(h:P:=by cases ho):P:=h
set_option maxHeartbeats 64000000
set_option maxRecDepth 100000
end
end Go
namespace Go.Am
section
def ite_cc{A:Sort _}{b c:Prop}[Decidable b][Decidable c]{x y:A}(h:b=c):ite b x y=ite c x y:=by subst h;congr
attribute [go_sem] reduceIte
end
section
attribute[local congr]ite_cc
section
inductive D where
 |bool (b:Bool)
 |int (k:IntKind) (n:Int)
 |str (s:List UInt8)
 |sl (es:List (List D))
 |nsl
 |nilp
 |nilf
 |nili
 |nilm
 |fn (f:FuncId)
 |iptr (cs:List D)
 |yld (l:Nat)
 deriving Inhabited
inductive PC where
 |d (x:D)
 |ptr (id g off:Nat)
 deriving Inhabited
inductive C where
 |d (x:D)
 |osl (id g sz off len:Nat)
 |ptr (id g off:Nat)
 |clo (f:FuncId) (q:List PC)
 |mp (id g kd:Nat)
 |lsl (n:Nat)
 |raw (o:Obj)
 deriving Inhabited
inductive AV where
 |one (c:C)
 |agg (cs:List C)
 |tup (vs:List AV)
 |junk
 |exact(v:Value)
 deriving Inhabited
structure St where
 f:Nat->AV
 gen:Nat->Nat
 obj:Nat->Option (List C)
inductive Box {A:Type} (a:A):Type where
 |mk
@[reducible]def bx{A:Type}(a:A):Box a:=.mk
def upd{A:Type}(f:Nat->A)(i:Nat)(v:A):Nat->A:=λj=>if j=i then v else f j
structure TI where
 desc:TypeDesc
 size:Nat
 bytes:Nat
 zero:List D
 deriving Inhabited
abbrev iv(k:IntKind)(n:Int):AV:=.one (.d (.int k n))
abbrev bv(b:Bool):AV:=.one (.d (.bool b))
abbrev sv(s:List UInt8):AV:=.one (.d (.str s))
abbrev uv:AV:=.tup []
def Xf:Value->C
 |.bool b=>.d (.bool b)
 |.int k n=>.d (.int k n)
 |.string s=>.d (.str s.data.toList)
 |.slice N 0 0=>.d .nsl
 |.pointer N=>.d .nilp
 |.nilFunc=>.d .nilf
 |.nilIface=>.d .nili
 |.map N=>.d .nilm
 |_=>.osl 0 0 0 0 0
def xO:Value->AV
 |.bool b=>.one (.d (.bool b))
 |.int k n=>.one (.d (.int k n))
 |.string s=>.one (.d (.str s.data.toList))
 |.slice N 0 0=>.one (.d .nsl)
 |.pointer N=>.one (.d .nilp)
 |.nilFunc=>.one (.d .nilf)
 |.nilIface=>.one (.d .nili)
 |.map N=>.one (.d .nilm)
 |_=>.junk
def St.ev(s:St):Operand->AV
 |.tmp t=>s.f t
 |.const v=>xO v
 |.global _=>.junk
 |.func f=>.one (.d (.fn f))
def St.put(s:St)(dst:Option Nat)(v:AV):St:=
 match dst with
 |none=>s
 |some d=>{s with f:=upd s.f d v}
def nxC(c g:Nat):Nat:=1000000*(g+1)+(if c<1000000 then c else 0)
def code(g:Nat):Nat:=g%1000000
def tn(c g:Nat):g<nxC c g:=by unfold nxC;omega
def wJ(c g:Nat):nxC c g≠g:=Nat.ne_of_gt (tn c g)
def lq(c g:Nat):code (nxC c g)=if c<1000000 then c else 0:=by
 unfold code nxC;rw[Nat.mul_add_mod];split
 .rename_i h;exact J9 h
 .rfl
def Dj{c:Nat}(g:Nat)(h:c<1000000):code (nxC c g)=c:=by rw[lq,l8 h]
def apC(e g off:Nat):Nat:=if code g=e+1/\off=0 then e+1 else 0
def St.newC(c:Nat)(s:St)(d:Nat)(cs:List C):St:={s with gen:=upd s.gen d (nxC c (s.gen d)),obj:=upd s.obj d (S cs)}
def dF:TypeDesc->Bool
 |.struct _|.array _ _=>T
 |_=>F
def cellsOf:AV->Option (List C)
 |.one c=>S [c]
 |.agg cs=>S cs
 |_=>N
def setAt(cells:List C)(off:Nat):List C->List C
 |[]=>cells
 |c::cs=>setAt (cells.set off c) (off+1) cs
def xQ(b:UInt8):D:=.int .u8 b.toNat
def jO(b:Bool){K:Bool->Prop}(_:Box K):Prop:=(b=T->K T)/\(b=F->K F)
def bG{A:Type}(x:Option A){K:A->Prop}(_:Box K):Prop:=
 match x with
 |some a=>K a
 |none=>False
def pt(v:AV){K:Bool->Prop}(k:Box K):Prop:=
 match v with
 |.one (.d (.bool b))=>jO b k
 |_=>False
def lS(v:AV){K:Bool->Prop}(k:Box K){U:Prop}(_:Box U):Prop:=
 match v with
 |.one (.d (.bool b))=>jO b k
 |.tup []=>U
 |_=>False
def xR(B:TI)(cells:List C)(off:Nat){K:AV->Prop}(_:Box K):Prop:=
 match dF B.desc with
 |true=>off+B.size<=z cells/\K (.agg ((cells.drop off).take B.size))
 |false=>bG (cells[off]?) (bx λc=>K (.one c))
def EP(B:TI)(cs:List D){K:AV->Prop}(_:Box K):Prop:=
 match dF B.desc with
 |true=>B.size<=z cs/\K (.agg ((cs.take B.size).map .d))
 |false=>bG (cs[0]?) (bx λc=>K (.one (.d c)))
def okD:TypeDesc->Bool
 |.invalid=>F
 |_=>T
def tq(B:TI)(s:St)(a:AV){K:AV->Prop}(k:Box K):Prop:=
 match a with
 |.one (.ptr id g off)=>okD B.desc=T/\s.gen id=g/\bG (s.obj id) (bx λe=>xR B e off k)
 |.one (.d (.iptr cs))=>okD B.desc=T/\EP B cs k
 |_=>False
def qY(B:TI)(s:St)(a x:AV){K:St->Prop}(_:Box K):Prop:=
 match a with
 | .one (.ptr id g off)=>okD B.desc=T/\s.gen id=g/\bG (cellsOf x) (bx λh=>z h=B.size/\bG (s.obj id) (bx λe=>off+z h<=z e/\
     K {s with obj:=upd s.obj id (S (setAt e off h))}))
 |_=>False
def ik(s:St)(sz:Nat)(x G:AV){K:AV->Prop}(_:Box K):Prop:=
 match G with
 |.one (.d (.int _ i))=>
   match x with
   |.one (.d (.sl es))=>0<=i/\bG (es[i.toNat]?) (bx λc=>z c=sz/\K (.one (.d (.iptr c))))
   |.one (.osl id g W off len)=>s.gen id=g/\(s.obj id).isSome=T/\0<=i/\i<len/\W=sz/\K (.one (.ptr id g (off+i.toNat*sz)))
   |_=>False
 |_=>False
def lr(E:Nat->TI)(d:TypeDesc)(s:St)(x G:AV){K:AV->Prop}(_:Box K):Prop:=
 match d with
 |.array n e=>
   match G with
   |.one (.d (.int _ i))=>
     match x with
     |.one (.ptr id g off)=>s.gen id=g/\(s.obj id).isSome=T/\okD (E e).desc=T/\0<=i/\i<n/\K (.one (.ptr id g (off+i.toNat*(E e).size)))
     |_=>False
   |_=>False
 |_=>False
def na(d:TypeDesc):Bool:=match d with|.array _ _=>T|_=>F
def tr(x G:AV){K:AV->Prop}(_:Box K):Prop:=
 match G with
 |.one (.d (.int _ i))=>
   match x with
   |.one (.d (.str s))=>0<=i/\bG (s[i.toNat]?) (bx λc=>K (iv .u8 c.toNat))
   |_=>False
 |_=>False
def mW(op:BinOp)(k:IntKind)(x y:Int){K:AV->Prop}(_:Box K):Prop:=
 match op with
 |.add=>K (iv k (k.wrap (x+y)))
 |.sub=>K (iv k (k.wrap (x-y)))
 |.mul=>K (iv k (k.wrap (x*y)))
 |.quo=>y≠0/\K (iv k (k.wrap (x.tdiv y)))
 |.rem=>y≠0/\K (iv k (x.tmod y))
 |.eql=>K (bv (decide (x=y)))
 |.neq=>K (bv (decide (x≠y)))
 |.lss=>K (bv (decide (x<y)))
 |.leq=>K (bv (decide (x<=y)))
 |.gtr=>K (bv (decide (y<x)))
 |.geq=>K (bv (decide (y<=x)))
 |.and=>K (iv k (k.wrap (BitVec.ofInt k.bits x &&&BitVec.ofInt k.bits y).toNat))
 |.or=>K (iv k (k.wrap (BitVec.ofInt k.bits x |||BitVec.ofInt k.bits y).toNat))
 |.xor=>K (iv k (k.wrap (BitVec.ofInt k.bits x ^^^ BitVec.ofInt k.bits y).toNat))
 |.andNot=>K (iv k (k.wrap (BitVec.ofInt k.bits x &&& ~~~ BitVec.ofInt k.bits y).toNat))
 |.shl=>0<=y/\K (iv k (k.wrap (x*2^(min y.toNat k.bits))))
 |.shr=>0<=y/\K (iv k (x.fdiv (2^(min y.toNat k.bits))))
def Dk(op:BinOp)(x y:List UInt8){K:AV->Prop}(_:Box K):Prop:=
 match op with
 |.add=>((z x+z y:Nat):Int)<=9223372036854775807/\K (sv (x++y))
 |.eql=>K (bv (decide (x=y)))
 |.neq=>K (bv (decide (x≠y)))
 |.lss=>K (bv (Op.bytesLess x y))
 |.leq=>K (bv (Op.bytesLess x y||decide (x=y)))
 |.gtr=>K (bv (!(Op.bytesLess x y||decide (x=y))))
 |.geq=>K (bv (!Op.bytesLess x y))
 |_=>False
def sameKind(op:BinOp)(k e:IntKind):Prop:=
 match op with
 |.shl|.shr=>True
 |_=>k=e
def Nr(d:TypeDesc)(op:BinOp)(x y:Bool){K:AV->Prop}(_:Box K):Prop:=
 match d,op with
 |.bool,.eql=>K (bv (decide (x=y)))
 |.bool,.neq=>K (bv (decide (x≠y)))
 |_,_=>False
def vE(k:IntKind):List C->Option (List Int)
 |[]=>S []
 |.d (.int e n)::r=>if e=k then(vE k r).map (n :: ·)else N
 |_=>N
def Ja(B:TI)(n:Nat)(xs Q:List C){K:Bool->Prop}(_:Box K):Prop:=
 match B.desc with
 |.int k=>B.size=1/\bG (vE k xs) (bx λa=>bG (vE k Q) (bx λb=>(z a=n/\z b=n)/\K (decide (a=b))))
 |_=>False
def QG(E:Nat->TI)(d:TypeDesc)(op:BinOp)(xs Q:List C){K:AV->Prop}(_:Box K):Prop:=
 match d,op with
 |.array n e,.eql=>Ja (E e) n xs Q (bx λb=>K (bv b))
 |.array n e,.neq=>Ja (E e) n xs Q (bx λb=>K (bv (!b)))
 |_,_=>False
def Ah(E:Nat->TI)(d:TypeDesc)(op:BinOp)(x y:AV){K:AV->Prop}(k:Box K):Prop:=
 match x,y with
 |.one (.d (.int e a)),.one (.d (.int h b))=>sameKind op e h/\mW op e a b k
 |.one (.d (.str a)),.one (.d (.str b))=>Dk op a b k
 |.one (.d (.bool a)),.one (.d (.bool b))=>Nr d op a b k
 |.agg xs,.agg Q=>QG E d op xs Q k
 |_,_=>False
def unA(op:UnOp)(x:AV){K:AV->Prop}(_:Box K):Prop:=
 match op,x with
 |.not,.one (.d (.bool b))=>K (bv (!b))
 |.neg,.one (.d (.int k n))=>K (iv k (k.wrap (0-n)))
 |_,_=>False
def contents(s:St)(str sl:Bool)(sz:Nat)(x:AV){K:Nat->List C->Prop}(_:Box K):Prop:=
 match x with
 |.one (.d .nsl)=>sl=T/\K 0 []
 |.one (.d (.sl es))=>sl=T/\(∀e∈es,z e=sz)/\K (z es) (es.flatten.map .d)
 |.one (.d (.str bs))=>str=T/\sz=1/\K (z bs) (bs.map λb=>.d (xQ b))
 |.one (.osl id g W off len)=>sl=T/\s.gen id=g/\W=sz/\bG (s.obj id) (bx λh=>off+len*sz<=z h/\K len ((h.drop off).take (len*sz)))
 |_=>False
def u8s:List C->Option (List Int)
 |[]=>S []
 |.d (.int .u8 n)::r=>(u8s r).map (n :: ·)
 |_=>N
def Ai:TypeDesc->Bool
 |.int .u8=>T
 |_=>F
def sa(s:St)(el:TypeDesc)(i dst:TypeDesc)(x:AV){K:AV->Prop}(_:Box K):Prop:=
 match i,dst,x with
 |a,.int k,.one (.d (.int _ n))=>okD a=T/\K (iv k (k.wrap n))
 |.string,.string,.one (.d (.str b))=>K (sv b)
 |.slice _,.string,y=>Ai el=T/\contents s F T 1 y (bx λ_ e=>bG (u8s e) (bx λm=>K (sv (m.map λn=>UInt8.ofNat n.toNat))))
 |_,_,_=>False
def Aj(n bytes:Nat):Prop:=0<bytes/\(2*n+1024)*bytes<=281474976710656
def lT(e:Nat)(B:TI)(str sl:Bool)(i d:Nat)(s:St)(x y:AV){K:St->Prop}(_:Box K):Prop:=
 match x with
 |.one (.d .nsl)=>contents s str sl B.size y (bx λn j=>Aj n B.bytes/\K ((s.newC (e+1) i j).put (S d) (.one (.osl i (nxC (e+1) (s.gen i)) B.size 0 n))))
 | .one (.osl id g sz off len)=>s.gen id=g/\sz=B.size/\bG (s.obj id) (bx λh=>off+len*sz<=z h/\
    contents s str sl B.size y (bx λn j=>Aj (len+n) B.bytes/\
     K ((s.newC (apC e (s.gen id) off) id ((h.drop off).take (len*sz)++j)).put (S d) (.one (.osl id (nxC (apC e (s.gen id) off) (s.gen id)) B.size 0 (len+n))))))
 |_=>False
def xS(s:St)(str sl:Bool)(x:AV){K:AV->Prop}(_:Box K):Prop:=
 match x with
 |.one (.d .nsl)=>sl=T/\K (iv .i64 0)
 |.one (.d (.sl es))=>sl=T/\K (iv .i64 (z es))
 |.one (.d (.str bs))=>str=T/\K (iv .i64 (z bs))
 |.one (.osl id g _ _ len)=>sl=T/\s.gen id=g/\(s.obj id).isSome=T/\K (iv .i64 len)
 |.one (.lsl n)=>sl=T/\K (iv .i64 n)
 |_=>False
def jj(o:Option AV)(B:Nat){K:Nat->Prop}(_:Box K):Prop:=
 match o with
 |none=>K B
 |some (.one (.d (.int _ n)))=>0<=n/\K n.toNat
 |_=>False
def pu(s:St)(str sl:Bool)(sz:Nat)(x:AV)(H e:Option AV){K:AV->Prop}(_:Box K):Prop:=
 match x with
 |.one (.d (.str bs))=>str=T/\jj e (z bs) (bx λh=>jj H 0 (bx λl=>l<=h/\h<=z bs/\K (sv ((bs.take h).drop l))))
 |.one (.d (.sl es))=>sl=T/\jj e (z es) (bx λh=>jj H 0 (bx λl=>l<=h/\h<=z es/\(∀x∈es,z x=sz)/\K (.one (.d (.sl ((es.take h).drop l))))))
 |.one (.d .nsl)=>sl=T/\jj e 0 (bx λh=>jj H 0 (bx λl=>l=0/\h=0/\K (.one (.d .nsl))))
 |.one (.osl id g W off len)=>sl=T/\s.gen id=g/\(s.obj id).isSome=T/\jj e len (bx λh=>jj H 0 (bx λl=>l<=h/\h<=len/\W=sz/\K (.one (.osl id g sz (off+l*sz) (h-l)))))
 |_=>False
def Jb(o:Option (List C))(n:Nat):Prop:=∃l,o=S l/\n<=z l
def lu(E:Nat->TI)(d:TypeDesc)(s:St)(x:AV)(H i:Option AV){K:AV->Prop}(_:Box K):Prop:=
 match d with
 |.array n e=>
   match x with
   |.one (.ptr id g off)=>
     match H with
     |none=>s.gen id=g/\okD (E e).desc=T/\Jb (s.obj id) (off+n*(E e).size)/\jj i n (bx λh=>h<=n/\K (.one (.osl id g (E e).size off h)))
     |_=>False
   |_=>False
 |_=>False
def Ak(sz:Nat):(k:Nat)->(ps:List (Nat×AV))->{K:List C->Prop}->Box K->Prop
 |_,[],K,_=>K []
 |k,p::r,K,_=>p.1=k/\bG (cellsOf p.2) (bx λe=>z e=sz/\Ak sz (k+1) r (bx λrest=>K (e++rest)))
def jC(e sz i d n:Nat)(s:St)(ps:List (Nat×AV)){K:St->Prop}(_:Box K):Prop:=
 (z ps)=n/\n*sz<=16777216/\Ak sz 0 ps (bx λh=>K ((s.newC (e+1) i h).put (S d) (.one (.osl i (nxC (e+1) (s.gen i)) sz 0 n))))
def jX(d:TypeDesc)(f:Nat):Option Field:=
 match d with
 |.struct fs=>fs[f]?
 |_=>N
def il(E:Nat->TI)(t f:Nat)(s:St)(x:AV){K:AV->Prop}(_:Box K):Prop:=
 match x with
 |.one (.ptr id g off)=>s.gen id=g/\(s.obj id).isSome=T/\bG (jX (E t).desc f) (bx λfl=>(okD (E fl.type).desc=T/\(E fl.type).size≠0)/\K (.one (.ptr id g (off+fl.offset))))
 |.one (.d (.iptr cs))=>bG (jX (E t).desc f) (bx λfl=>(okD (E fl.type).desc=T/\(E fl.type).size≠0)/\K (.one (.d (.iptr (cs.drop fl.offset)))))
 |_=>False
def qZ(E:Nat->TI)(t f:Nat)(x:AV){K:AV->Prop}(k:Box K):Prop:=
 match x with
 |.agg cs=>bG (jX (E t).desc f) (bx λfl=>okD (E fl.type).desc=T/\xR (E fl.type) cs fl.offset k)
 |_=>False
def tt(pl:Nat->Option (Nat×Nat)):(cells:List C)->(ps:List (Nat×AV))->{K:List C->Prop}->Box K->Prop
 |cells,[],K,_=>K cells
 |cells,p::r,_,k=>bG (pl p.1) (bx λq=>bG (cellsOf p.2) (bx λe=>z e=q.2/\q.1+q.2<=z cells/\tt pl (setAt cells q.1 e) r k))
def placeOf(E:Nat->TI)(d:TypeDesc)(i:Nat):Option (Nat×Nat):=
 match d with
 |.array _ e=>S (i*(E e).size,(E e).size)
 |d=>(jX d i).bind λfl=>bif okD (E fl.type).desc then S (fl.offset,(E fl.type).size)else N
def fW(E:Nat->TI)(t:Nat):Bool:=match (E t).desc with|.struct fs=>fs.toList.all λf=>okD (E f.type).desc|.array _ e=>okD (E e).desc|_=>F
def fe(E:Nat->TI)(t:Nat)(ps:List (Nat×AV)){K:AV->Prop}(_:Box K):Prop:=
 fW E t=T/\tt (placeOf E (E t).desc) ((E t).zero.map .d) ps (bx λe=>K (.agg e))
def Jc(t i d:Nat)(s:St)(x:AV){K:St->Prop}(_:Box K):Prop:=
 bG (cellsOf x) (bx λe=>K ((s.newC (t+1) i e).put (S d) (.one (.ptr i (nxC (t+1) (s.gen i)) 0))))
def wK(t:Nat)(B:TI)(i d:Nat)(s:St){K:St->Prop}(_:Box K):Prop:=
 okD B.desc=T/\K ((s.newC (t+1) i (B.zero.map .d)).put (S d) (.one (.ptr i (nxC (t+1) (s.gen i)) 0)))
def jk(s:St)(x:AV){K:AV->Prop}(_:Box K):Prop:=
 match x with
 |.one (.ptr id g off)=>s.gen id=g/\(s.obj id).isSome=T/\K (.one (.ptr id g off))
 |.one (.d (.iptr cs))=>K (.one (.d (.iptr cs)))
 |_=>False
def nb(x:AV)(i:Nat){K:AV->Prop}(k:Box K):Prop:=
 match x with
 |.tup ts=>bG (ts[i]?) k
 |_=>False
def mxA(e:Bool)(x y:AV){K:AV->Prop}(_:Box K):Prop:=
 match x,y with
 |.one (.d (.int k a)),.one (.d (.int _ b))=>K (iv k (if e then max a b else min a b))
 |_,_=>False
def jl(e:Nat)(B:TI)(i d:Nat)(s:St)(l c:AV){K:St->Prop}(_:Box K):Prop:=
 match l,c with
 |.one (.d (.int _ n)),.one (.d (.int _ m))=>0<=n/\n<=m/\m<=4611686018427387904/\m*B.bytes<=281474976710656/\
    K ((s.newC (e+1) i (List.replicate m.toNat (B.zero.map C.d)).flatten).put (S d) (.one (.osl i (nxC (e+1) (s.gen i)) B.size 0 n.toNat)))
 |_,_=>False
def dA:Nat->TypeDesc
 |0=>.int .i8|1=>.int .i16|2=>.int .i32|3=>.int .i64|4=>.int .u8|5=>.int .u16|6=>.int .u32|7=>.int .u64
 |8=>.string
 |9=>.bool
 |_=>.invalid
def lU:TypeDesc->Nat
 |.int .i8=>0|.int .i16=>1|.int .i32=>2|.int .i64=>3|.int .u8=>4|.int .u16=>5|.int .u32=>6|.int .u64=>7
 |.string=>8
 |_=>9
def gw:TypeDesc->D->Bool
 |.int k,.int e _=>e=k
 |.string,.str _=>T
 |.bool,.bool _=>T
 |_,_=>F
def jT:D->D->Bool
 |.int k n,.int e j=>k=e&&n=j
 |.str s,.str W=>s=W
 |.bool b,.bool X=>b=X
 |_,_=>F
def mget:List C->D->Option C
 |.d e::c::r,k=>if jT e k then S c else mget r k
 |_,_=>N
def mset:List C->D->C->List C
 |.d e::c::r,k,x=>if jT e k then .d e::x::r else .d e::c::mset r k x
 |_,k,x=>[.d k,x]
def xT(agg:Bool)(n:Nat):Nat:=match agg with|true=>200+n|false=>n
def lw(E:Nat->TI)(t i d:Nat)(s:St){K:St->Prop}(_:Box K):Prop:=
 match (E t).desc with
 |.map r H=>dA (lU (E r).desc)=(E r).desc/\K ((s.newC 0 i []).put (S d) (.one (.mp i (nxC 0 (s.gen i)) (xT (dF (E H).desc) (lU (E r).desc)))))
 |_=>False
def sb(ok:Bool)(X:D)(c:Option C):AV:=if ok then .tup [.one (c.getD (.d X)),bv c.isSome]else .one (c.getD (.d X))
def xU(B:TI){K:D->Prop}(_:Box K):Prop:=
 match B.zero with
 |[X]=>(okD B.desc=T/\dF B.desc=F)/\K X
 |_=>False
def xV(X:List D):Option C->List D
 |some (.d (.iptr ds))=>ds
 |_=>X
def lV(ok:Bool)(X:List D)(c:Option C):AV:=match ok with|true=>.tup [.agg ((xV X c).map .d),bv c.isSome]|false=>.agg ((xV X c).map .d)
def xW(B:TI){K:List D->Prop}(_:Box K):Prop:=(okD B.desc=T/\2<=z B.zero)/\K B.zero
def lW(E:Nat->TI)(t:Nat)(s:St)(x G:AV)(ok:Bool){K:AV->Prop}(_:Box K):Prop:=
 match (E t).desc,G with
 |.map r H,.one (.d k)=>(okD (E r).desc=T/\gw (E r).desc k=T)/\
   match dF (E H).desc with
   | false=>xU (E H) (bx λX=>
     match x with
     |.one (.mp id g h)=>s.gen id=g/\dA h=(E r).desc/\bG (s.obj id) (bx λe=>K (sb ok X (mget e k)))
     |.one (.d .nilm)=>K (sb ok X N)
     | _=>False)
   | true=>xW (E H) (bx λX=>
     match x with
     |.one (.mp id g h)=>s.gen id=g/\(200<=h/\dA (h-200)=(E r).desc)/\bG (s.obj id) (bx λe=>K (lV ok X (mget e k)))
     |.one (.d .nilm)=>K (lV ok X N)
     | _=>False)
 |_,_=>False
def datas:List C->Option (List D)
 |[]=>S []
 |.d x::r=>(datas r).map (x :: ·)
 |_=>N
def ed(E:Nat->TI)(t:Nat)(s:St)(m G x:AV){K:St->Prop}(_:Box K):Prop:=
 match (E t).desc,G,m,x with
 |.map r _,.one (.d k),.one (.mp id g h),.one c=>(okD (E r).desc=T/\gw (E r).desc k=T)/\s.gen id=g/\dA h=(E r).desc/\bG (s.obj id) (bx λe=>K {s with obj:=upd s.obj id (S (mset e k c))})
 |.map r _,.one (.d k),.one (.mp id g h),.agg cs=>(okD (E r).desc=T/\gw (E r).desc k=T)/\s.gen id=g/\(200<=h/\dA (h-200)=(E r).desc)/\bG (datas cs) (bx λds=>bG (s.obj id) (bx λe=>K {s with obj:=upd s.obj id (S (mset e k (.d (.iptr ds))))}))
 |_,_,_,_=>False
def EQ:AV->Option PC
 |.one (.d x)=>S (.d x)
 |.one (.ptr id g off)=>S (.ptr id g off)
 |_=>N
def nc:List AV->Option (List PC)
 |[]=>S []
 |x::xs=>(EQ x).bind λp=>(nc xs).bind λps=>S (p::ps)
def jm(f:FuncId)(first q:List AV){K:AV->Prop}(_:Box K):Prop:=
 match first with
 |[]=>f<1000000/\bG (nc q) (bx λl=>K (.one (.clo f l)))
 |x::r=>q=[]/\bG (nc (x::r)) (bx λl=>K (.one (.clo (f+1000000) l)))
def aW(E:Nat->TI)(t:Nat):Nat:=
 match (E t).desc with
 |.slice e=>e
 |_=>0
def aR(E:Nat->TI)(t:Nat):TI:=
 match (E t).desc with
 |.slice e=>E e
 |_=>default
def tu(s:St)(c:Call)(i:Nat):AV:=s.ev (c.args.getD i (.const .nilFunc))
structure Sp where
 op:Oper->St->(St->Prop)->Prop
 code:Code->St->(Exit->St->Prop)->Prop
 vs:St->St->Prop
 base:Nat
def bm(ar:Sp)(o:Oper)(s:St){K:St->Prop}(_:Box K):Prop:=∃R,ar.op o s R/\∀W,R W->K W
def Mf(ar:Sp)(c:Code)(s:St){Q:Exit->St->Prop}(_:Box Q):Prop:=∃R,ar.code c s R/\∀e W,R e W->Q e W
def isSlice(d:TypeDesc):Bool:=match d with|.slice _=>T|_=>F
def ee(E:Nat->TI):Op->Bool
 |.indexAddr _ x _=>match x with|.global _=>F|_=>T
 |.move _|.assign _|.pick .. | .load .. | .index .. | .binOp .. | .unOp .. | .slice _ _ _ _ N|.fieldAddr .. | .field .. | .build .. | .nilCheck _|.extract .. | .lookup .. | .makeFunc (.func _) _ _=>T
 |.convert _ d _=>!isSlice (E d).desc
 |.call c=>match c.callee with|.builtin .len|.builtin .max|.builtin .min=>T|_=>F
 |_=>F
def nd(E:Nat->TI)(ops:Array Oper):Bool:=
 (ops.toList.all (ee E ·.op)&&Region.lexB .any ops) ||
 [1,2,3,4].any λk=>(ops.toList.take (ops.size-k)).all (ee E ·.op)&&Region.lexTailB .any ops (ops.size-k)
def isStr(d:TypeDesc):Bool:=match d with|.string=>T|_=>F
def cZ(E:Nat->TI)(t:Nat):Bool:=isSlice (E t).desc&&okD (aR E t).desc
def lX(E:Nat->TI)(i d base:Nat)(dst:Option Nat)(s:St)(x:AV){K:St->Prop}(_:Box K):Prop:=
 match dst,x with
 |some l,.one (.d (.str bs))=>isStr (E i).desc=T/\Ai (aR E d).desc=T/\K ((s.newC (aW E d+1) (base+l) (bs.map λb=>.d (xQ b))).put (S l) (.one (.osl (base+l) (nxC (aW E d+1) (s.gen (base+l))) 1 0 (z bs))))
 |_,_=>False
def QH(ar:Sp)(E:Nat->TI)(o:Oper)(c:Call)(s:St){K:St->Prop}(k:Box K):Prop:=
 match c.callee,o.dst with
 |.builtin .len,dst=>(c.args.size=1/\c.argTypes.size=1)/\xS s (isStr (E (c.argTypes.getD 0 0)).desc) (cZ E (c.argTypes.getD 0 0)) (tu s c 0) (bx λv=>K (s.put dst v))
 |.builtin .max,dst=>c.args.size=2/\mxA T (tu s c 0) (tu s c 1) (bx λv=>K (s.put dst v))
 |.builtin .min,dst=>c.args.size=2/\mxA F (tu s c 0) (tu s c 1) (bx λv=>K (s.put dst v))
 |.builtin .append,S d=>(c.args.size=2/\c.argTypes.size=2)/\cZ E (c.argTypes.getD 0 0)=T/\lT (aW E (c.argTypes.getD 0 0)) (aR E (c.argTypes.getD 0 0)) (isStr (E (c.argTypes.getD 1 0)).desc) (cZ E (c.argTypes.getD 1 0)) (ar.base+d) d s (tu s c 0) (tu s c 1) k
 |_,_=>bm ar o s k
def opA(ar:Sp)(E:Nat->TI)(o:Oper)(s:St){K:St->Prop}(k:Box K):Prop:=
 match o.op,o.dst with
 |.move x,dst=>K (s.put dst (s.ev x))
 |.assign x,dst=>K (s.put dst (s.ev x))
 |.pick c a b,dst=>pt (s.ev c) (bx λt=>K (s.put dst (if t then s.ev a else s.ev b)))
 |.load t a,dst=>tq (E t) s (s.ev a) (bx λv=>K (s.put dst v))
 |.store t a x,dst=>qY (E t) s (s.ev a) (s.ev x) (bx λW=>K (W.put dst uv))
 |.indexAddr t x G,dst=>match x with
   |.global _=>bm ar o s k
   |x=>bif na (E t).desc then lr E (E t).desc s (s.ev x) (s.ev G) (bx λv=>K (s.put dst v))else cZ E t=T/\ik s (aR E t).size (s.ev x) (s.ev G) (bx λv=>K (s.put dst v))
 |.index t x G,dst=>isStr (E t).desc=T/\tr (s.ev x) (s.ev G) (bx λv=>K (s.put dst v))
 |.binOp op t x y _,dst=>Ah E (E t).desc op (s.ev x) (s.ev y) (bx λv=>K (s.put dst v))
 |.unOp op _ x,dst=>unA op (s.ev x) (bx λv=>K (s.put dst v))
 |.convert src d x,dst=>bif isSlice (E d).desc then lX E src d ar.base dst s (s.ev x) k else sa s (aR E src).desc (E src).desc (E d).desc (s.ev x) (bx λv=>K (s.put dst v))
 |.slice t x H e N,dst=>bif na (E t).desc then lu E (E t).desc s (s.ev x) (H.map s.ev) (e.map s.ev) (bx λv=>K (s.put dst v))else pu s (isStr (E t).desc) (cZ E t) (aR E t).size (s.ev x) (H.map s.ev) (e.map s.ev) (bx λv=>K (s.put dst v))
 |.buildSlice t n ps,S d=>cZ E t=T/\jC (aW E t) (aR E t).size (ar.base+d) d n s (ps.toList.map λp=>(p.1,s.ev p.2)) k
 |.makeSlice t l c,S d=>cZ E t=T/\jl (aW E t) (aR E t) (ar.base+d) d s (s.ev l) (s.ev c) k
 |.fieldAddr t x f,dst=>il E t f s (s.ev x) (bx λv=>K (s.put dst v))
 |.field t x f,dst=>qZ E t f (s.ev x) (bx λv=>K (s.put dst v))
 |.build t ps,dst=>fe E t (ps.toList.map λp=>(p.1,s.ev p.2)) (bx λv=>K (s.put dst v))
 |.nilCheck x,dst=>jk s (s.ev x) (bx λv=>K (s.put dst v))
 |.extract x i,dst=>nb (s.ev x) i (bx λv=>K (s.put dst v))
 |.box t x,S d=>Jc t (ar.base+d) d s (s.ev x) k
 |.alloc t,S d=>wK t (E t) (ar.base+d) d s k
 |.makeMap t N,S d=>lw E t (ar.base+d) d s k
 |.lookup t x G ok,dst=>lW E t s (s.ev x) (s.ev G) ok (bx λv=>K (s.put dst v))
 |.mapUpdate t m G x,dst=>ed E t s (s.ev m) (s.ev G) (s.ev x) (bx λW=>K (W.put dst uv))
 |.makeFunc (.func f) first q,dst=>jm f (first.toList.map s.ev) (q.toList.map s.ev) (bx λv=>K (s.put dst v))
 |.call c,_=>QH ar E o c s k
 |_,_=>bm ar o s k
def wpO(ar:Sp)(E:Nat->TI)(ops:Array Oper):List Oper->(s:St)->{K:St->Prop}->(k:Box K)->Prop
 |[],s,K,_=>K s
 |o::rest,s,K,k=>
   match o.guard with
   |none=>opA ar E o s (bx λW=>wpO ar E ops rest W k)
   |some (j,want)=>
     bG ((ops[j]?).bind (·.dst)) (bx λd=>
      lS (s.f d) (bx λb=>if b=want then opA ar E o {s with f:=upd s.f d (bv b)} (bx λW=>wpO ar E ops rest W k)
       else wpO ar E ops rest ({s with f:=upd s.f d (bv b)}.put o.dst uv) k) (bx (wpO ar E ops rest (s.put o.dst uv) k)))
def iQ{next:St->Prop}(_:Box next){Q:Exit->St->Prop}(_:Box Q):Exit->St->Prop
 |.normal,s=>next s
 |e,s=>Q e s
def iR(id:Nat){Q:Exit->St->Prop}(_:Box Q):Exit->St->Prop
 |.exit L,s=>if L=id then Q .normal s else Q (.exit L) s
 |e,s=>Q e s
def ng(ar:Sp){B:(Exit->St->Prop)->St->Prop}(_:Box B){Q:Exit->St->Prop}(q:Box Q)(s:St):Prop:=
 ∃I:Nat->St->Prop,(∃n d,ar.vs s d/\I n d)/\∀n s,I n s->B (iQ (bx λW=>∃j d,j<n/\ar.vs W d/\I j d) q) s
def qg{Q:Exit->St->Prop}(_:Box Q):Exit->St->Prop
 |.goto _,_=>False
 |e,s=>Q e s
def ky(ar:Sp)(E:Nat->TI)(id:Nat)(ops:Array Oper)(s:St){Q:Exit->St->Prop}(q:Box Q):Prop:=
 (nd E ops=T/\wpO ar E ops ops.toList s (bx λW=>Q .normal W))\/Mf ar (.region id ops T) s q
def wpC(ar:Sp)(E:Nat->TI):Code->{Q:Exit->St->Prop}->(q:Box Q)->St->Prop
 |.skip,Q,_,s=>Q .normal s
 |.label _,Q,_,s=>Q .normal s
 |.region id ops b,Q,q,s=>match b with|true=>ky ar E id ops s q|false=>wpO ar E ops ops.toList s (bx λW=>Q .normal W)
 |.seq x y,Q,q,s=>wpC ar E x (bx (iQ (bx λW=>wpC ar E y q W) q)) s
 |.cond c x y,Q,q,s=>pt (s.ev c) (bx λb=>if b then wpC ar E x q s else wpC ar E y q s)
 |.block id c,Q,q,s=>wpC ar E c (bx (iR id q)) s
 |.loop c,Q,q,s=>ng ar (bx λQ s=>wpC ar E c (bx Q) s) q s
 |.exit id,Q,_,s=>Q (.exit id) s
 |.ret,Q,_,s=>Q .ret s
 |.scope c,_,q,s=>wpC ar E c (bx (qg q)) s
 |.goto l,Q,_,s=>Q (.goto l) s
 |c,_,q,s=>Mf ar c s q
variable{s:St}{K:St->Prop}{ty:TypeId}{ps:String}{w:Array Edge}{gd:Option (Nat×Bool)}{dst:Option Tmp}{x:Operand}{t:TypeId}{n:Nat}{d:Tmp}{Q:Exit->St->Prop}{a:Array Operand}{ts:Array TypeId}{c:Code}{G:Operand}{p:Array (Nat×Operand)}{next:St->Prop}{l:List Oper}{k:Box K}{q:Box Q}{b:Box next}
section equations
variable{ar:Sp}{E:Nat->TI}
@[go_sem]def Mg{K:Bool->Prop}(k:Box K):jO T k=K T:=by simp[jO]
@[go_sem]def Jd{K:Bool->Prop}(k:Box K):jO F k=K F:=by simp[jO]
@[go_sem]def IS(p:Prop)[Decidable p]{K:Bool->Prop}(k:Box K):jO (decide p) k=((p->K T)/\(¬p->K F)):=by simp[jO]
@[go_sem]def Ns(b:Bool){K:Bool->Prop}(k:Box K):jO (!b) k=jO b (bx λt=>K (!t)):=by cases b<;>simp[jO]
@[go_sem]def Mh:dF .bool=F/\okD .bool=T/\(∀(kd:IntKind),dF (.int kd)=F)/\(∀(kd:IntKind),isSlice (.int kd)=F)/\(∀(kd:IntKind),okD (.int kd)=T)/\dF .string=F/\isSlice .string=F/\na .string=F/\okD .string=T/\(∀(e:TypeId),dF (.pointer e)=F)/\(∀(e:TypeId),okD (.pointer e)=T)/\(∀(e:TypeId),dF (.slice e)=F)/\(∀(e:TypeId),na (.slice e)=F)/\(∀(e:TypeId),okD (.slice e)=T)/\(∀(e:TypeId),isStr (.slice e)=F)/\(∀(fs:Array Field),okD (.struct fs)=T)/\Ai (.int .u8)=T/\lU (.int .i64)=3/\lU .string=8/\dA 3=.int .i64/\dA 8=.string/\(∀(X:List D),xV X N=X)/\datas []=S []:=by and_intros<;>intros<;>exact B7 rfl rfl
@[go_sem]def PX(n:Nat)(e:TypeId):okD (.array n e)=T:=B7 rfl rfl
@[go_sem]def Nv(a b:TypeId):dF (.map a b)=F:=B7 rfl rfl
@[go_sem]def Ug(a b:TypeId):okD (.map a b)=T:=B7 rfl rfl
@[go_sem]def Mq(ps rs:Array TypeId)(v:Bool):dF (.func ps rs v)=F:=B7 rfl rfl
@[go_sem]def QJ(ps rs:Array TypeId)(v:Bool):okD (.func ps rs v)=T:=B7 rfl rfl
@[go_sem]def PY(d:TypeDesc)(n b:Nat)(X:List D)(cells:List C)(off:Nat){K:AV->Prop}(k:Box K):xR ⟨d,n,b,X⟩ cells off k=(match dF d with|true=>off+n<=z cells/\K (.agg ((cells.drop off).take n))|false=>bG (cells[off]?) (bx λc=>K (.one c))):=B7 rfl rfl
@[go_sem]def PZ(d:TypeDesc)(n b:Nat)(X:List D)(cs:List D){K:AV->Prop}(k:Box K):EP ⟨d,n,b,X⟩ cs k=(match dF d with|true=>n<=z cs/\K (.agg ((cs.take n).map .d))|false=>bG (cs[0]?) (bx λc=>K (.one (.d c)))):=B7 rfl rfl
@[go_sem]def Jg(a b:IntKind):sameKind .add a b=(a=b):=B7 rfl rfl
@[go_sem]def Jh(a b:IntKind):sameKind .sub a b=(a=b):=B7 rfl rfl
@[go_sem]def Ji(a b:IntKind):sameKind .mul a b=(a=b):=B7 rfl rfl
@[go_sem]def Jj(a b:IntKind):sameKind .quo a b=(a=b):=B7 rfl rfl
@[go_sem]def Jk(a b:IntKind):sameKind .rem a b=(a=b):=B7 rfl rfl
@[go_sem]def Jl(a b:IntKind):sameKind .eql a b=(a=b):=B7 rfl rfl
@[go_sem]def Jm(a b:IntKind):sameKind .neq a b=(a=b):=B7 rfl rfl
@[go_sem]def Jn(a b:IntKind):sameKind .lss a b=(a=b):=B7 rfl rfl
@[go_sem]def Jo(a b:IntKind):sameKind .leq a b=(a=b):=B7 rfl rfl
@[go_sem]def Jp(a b:IntKind):sameKind .gtr a b=(a=b):=B7 rfl rfl
@[go_sem]def Jq(a b:IntKind):sameKind .geq a b=(a=b):=B7 rfl rfl
@[go_sem]def Jr(a b:IntKind):sameKind .and a b=(a=b):=B7 rfl rfl
@[go_sem]def Mr(a b:IntKind):sameKind .or a b=(a=b):=B7 rfl rfl
@[go_sem]def Qa(sz n i:Nat)(x:AV)(r:List (Nat×AV)){K:List C->Prop}(k:Box K):Ak sz n ((i,x)::r) k=(i=n/\bG (cellsOf x) (bx λcs=>z cs=sz/\Ak sz (n+1) r (bx λrest=>K (cs++rest)))):=B7 rfl rfl
@[go_sem]def Nx(pl:Nat->Option (Nat×Nat))(cells:List C)(i:Nat)(x:AV)(r:List (Nat×AV)){K:List C->Prop}(k:Box K):tt pl cells ((i,x)::r) k=bG (pl i) (bx λq=>bG (cellsOf x) (bx λcs=>z cs=q.2/\q.1+q.2<=z cells/\tt pl (setAt cells q.1 cs) r k)):=B7 rfl rfl
@[go_sem]def Ny(fs:Array Field)(i:Nat):placeOf E (.struct fs) i=(jX (.struct fs) i).bind λfl=>bif okD (E fl.type).desc then S (fl.offset,(E fl.type).size)else N:=B7 rfl rfl
@[go_sem]def Ui(k1 e:IntKind)(a b:Int){K:AV->Prop}(k:Box K):mxA T (.one (.d (.int k1 a))) (.one (.d (.int e b))) k=K (iv k1 (max a b)):=B7 rfl rfl
@[go_sem]def QK(d:TypeDesc)(a b:Nat)(X:List D){K:List D->Prop}(k:Box K):xW ⟨d,a,b,X⟩ k=((okD d=T/\2<=z X)/\K X):=B7 rfl rfl
@[go_sem]def QL(d:TypeDesc)(a b:Nat)(X:D){K:D->Prop}(k:Box K):xU ⟨d,a,b,[X]⟩ k=((okD d=T/\dF d=F)/\K X):=B7 rfl rfl
@[go_sem]def Nz(t:Nat)(s:St)(x:AV)(k:D)(ok:Bool){K:AV->Prop}(b:Box K):lW E t s x (.one (.d k)) ok b=(match (E t).desc with
 |.map r H=>(okD (E r).desc=T/\gw (E r).desc k=T)/\
   match dF (E H).desc with
   | false=>xU (E H) (bx λX=>
     match x with
     |.one (.mp id g kd)=>s.gen id=g/\dA kd=(E r).desc/\bG (s.obj id) (bx λcells=>K (sb ok X (mget cells k)))
     |.one (.d .nilm)=>K (sb ok X N)
     | _=>False)
   | true=>xW (E H) (bx λX=>
     match x with
     |.one (.mp id g kd)=>s.gen id=g/\(200<=kd/\dA (kd-200)=(E r).desc)/\bG (s.obj id) (bx λcells=>K (lV ok X (mget cells k)))
     |.one (.d .nilm)=>K (lV ok X N)
     | _=>False)
 | _=>False):=by unfold lW;cases (E t).desc<;>rfl
@[go_sem]def ET(t:Nat)(s:St)(id g kd:Nat)(k:D)(cs:List C)(b:Box K):ed E t s (.one (.mp id g kd)) (.one (.d k)) (.agg cs) b=(match (E t).desc with
 |.map r _=>(okD (E r).desc=T/\gw (E r).desc k=T)/\s.gen id=g/\(200<=kd/\dA (kd-200)=(E r).desc)/\bG (datas cs) (bx λds=>bG (s.obj id) (bx λcells=>K {s with obj:=upd s.obj id (S (mset cells k (.d (.iptr ds))))}))
 | _=>False):=by unfold ed;cases (E t).desc<;>rfl
@[go_sem]def IU(t:Nat)(s:St)(id g kd:Nat)(k:D)(c:C)(b:Box K):ed E t s (.one (.mp id g kd)) (.one (.d k)) (.one c) b=(match (E t).desc with
 |.map r _=>(okD (E r).desc=T/\gw (E r).desc k=T)/\s.gen id=g/\dA kd=(E r).desc/\bG (s.obj id) (bx λcells=>K {s with obj:=upd s.obj id (S (mset cells k c))})
 | _=>False):=by unfold ed;cases (E t).desc<;>rfl
@[go_sem]def Qf:nc []=S []:=B7 rfl rfl
@[go_sem]def EU(f:FuncId)(x:AV)(r:List AV){K:AV->Prop}(k:Box K):jm f (x::r) [] k=bG (nc (x::r)) (bx λl=>K (.one (.clo (f+1000000) l))):=propext ⟨λh=>h.2,λh=>⟨rfl,h⟩⟩
@[go_sem]def QM:opA ar E ⟨dst,.move x,ty,ps,w,gd⟩ s k=K (s.put dst (s.ev x))/\opA ar E ⟨dst,.assign x,ty,ps,w,gd⟩ s k=K (s.put dst (s.ev x))/\(opA ar E ⟨dst,.nilCheck x,ty,ps,w,gd⟩ s k=jk s (s.ev x) (bx λv=>K (s.put dst v)))/\(∀{i:Nat},opA ar E ⟨dst,.extract x i,ty,ps,w,gd⟩ s k=nb (s.ev x) i (bx λv=>K (s.put dst v))):=by and_intros<;>intros<;>exact B7 rfl rfl
@[go_sem]def QN{c a b:Operand}:opA ar E ⟨dst,.pick c a b,ty,ps,w,gd⟩ s k=pt (s.ev c) (bx λt=>K (s.put dst (if t then s.ev a else s.ev b))):=B7 rfl rfl
@[go_sem]def QO{a:Operand}:opA ar E ⟨dst,.load t a,ty,ps,w,gd⟩ s k=tq (E t) s (s.ev a) (bx λv=>K (s.put dst v)):=B7 rfl rfl
@[go_sem]def Qg{a x:Operand}:opA ar E ⟨dst,.store t a x,ty,ps,w,gd⟩ s k=qY (E t) s (s.ev a) (s.ev x) (bx λW=>K (W.put dst uv)):=B7 rfl rfl
@[go_sem]def IV{x:Nat}:opA ar E ⟨dst,.indexAddr t (.tmp x) G,ty,ps,w,gd⟩ s k=(bif na (E t).desc then lr E (E t).desc s (s.f x) (s.ev G) (bx λv=>K (s.put dst v))else cZ E t=T/\ik s (aR E t).size (s.f x) (s.ev G) (bx λv=>K (s.put dst v))):=B7 rfl rfl
@[go_sem]def QP{t g:Nat}:opA ar E ⟨dst,.indexAddr t (.global g) G,ty,ps,w,gd⟩ s k=bm ar ⟨dst,.indexAddr t (.global g) G,ty,ps,w,gd⟩ s k:=B7 rfl rfl
@[go_sem]def Qh{x G:Operand}:opA ar E ⟨dst,.index t x G,ty,ps,w,gd⟩ s k=(isStr (E t).desc=T/\tr (s.ev x) (s.ev G) (bx λv=>K (s.put dst v))):=B7 rfl rfl
@[go_sem]def Qi{o:BinOp}{t u:TypeId}{x y:Operand}:opA ar E ⟨dst,.binOp o t x y u,ty,ps,w,gd⟩ s k=Ah E (E t).desc o (s.ev x) (s.ev y) (bx λv=>K (s.put dst v)):=B7 rfl rfl
@[go_sem]def QQ:(∀{o:UnOp},opA ar E ⟨dst,.unOp o t x,ty,ps,w,gd⟩ s k=unA o (s.ev x) (bx λv=>K (s.put dst v)))/\(∀{H e:Option Operand},opA ar E ⟨dst,.slice t x H e N,ty,ps,w,gd⟩ s k=(bif na (E t).desc then lu E (E t).desc s (s.ev x) (H.map s.ev) (e.map s.ev) (bx λv=>K (s.put dst v))else pu s (isStr (E t).desc) (cZ E t) (aR E t).size (s.ev x) (H.map s.ev) (e.map s.ev) (bx λv=>K (s.put dst v)))):=by and_intros<;>intros<;>exact B7 rfl rfl
@[go_sem]def Mv{t u:TypeId}:opA ar E ⟨dst,.convert t u x,ty,ps,w,gd⟩ s k=(bif isSlice (E u).desc then lX E t u ar.base dst s (s.ev x) k else sa s (aR E t).desc (E t).desc (E u).desc (s.ev x) (bx λv=>K (s.put dst v))):=B7 rfl rfl
@[go_sem]def EV{t n:Nat}:opA ar E ⟨(S d),.buildSlice t n p,ty,ps,w,gd⟩ s k=(cZ E t=T/\jC (aW E t) (aR E t).size (ar.base+d) d n s (p.toList.map λp=>(p.1,s.ev p.2)) k):=B7 rfl rfl
@[go_sem]def IW{l c:Operand}:opA ar E ⟨(S d),.makeSlice t l c,ty,ps,w,gd⟩ s k=(cZ E t=T/\jl (aW E t) (aR E t) (ar.base+d) d s (s.ev l) (s.ev c) k):=B7 rfl rfl
@[go_sem]def Uj:(opA ar E ⟨dst,.call ⟨.builtin .len,a,ts⟩,ty,ps,w,gd⟩ s k=((a.size=1/\ts.size=1)/\xS s (isStr (E (ts.getD 0 0)).desc) (cZ E (ts.getD 0 0)) (s.ev (a.getD 0 (.const .nilFunc))) (bx λv=>K (s.put dst v))))/\(opA ar E ⟨dst,.call ⟨.builtin .max,a,ts⟩,ty,ps,w,gd⟩ s k=(a.size=2/\mxA T (s.ev (a.getD 0 (.const .nilFunc))) (s.ev (a.getD 1 (.const .nilFunc))) (bx λv=>K (s.put dst v)))):=by and_intros<;>exact B7 rfl rfl
@[go_sem]def NB:opA ar E ⟨(S d),.call ⟨.builtin .append,a,ts⟩,ty,ps,w,gd⟩ s k=((a.size=2/\ts.size=2)/\cZ E (ts.getD 0 0)=T/\lT (aW E (ts.getD 0 0)) (aR E (ts.getD 0 0)) (isStr (E (ts.getD 1 0)).desc) (cZ E (ts.getD 1 0)) (ar.base+d) d s (s.ev (a.getD 0 (.const .nilFunc))) (s.ev (a.getD 1 (.const .nilFunc))) k):=B7 rfl rfl
@[go_sem]def IX{t f:Nat}:opA ar E ⟨dst,.fieldAddr t x f,ty,ps,w,gd⟩ s k=il E t f s (s.ev x) (bx λv=>K (s.put dst v)):=B7 rfl rfl
@[go_sem]def Qk{t f:Nat}:opA ar E ⟨dst,.field t x f,ty,ps,w,gd⟩ s k=qZ E t f (s.ev x) (bx λv=>K (s.put dst v)):=B7 rfl rfl
@[go_sem]def Ql{t:Nat}:opA ar E ⟨dst,.build t p,ty,ps,w,gd⟩ s k=fe E t (p.toList.map λp=>(p.1,s.ev p.2)) (bx λv=>K (s.put dst v)):=B7 rfl rfl
@[go_sem]def Uk{t:Nat}:opA ar E ⟨(S d),.box t x,ty,ps,w,gd⟩ s k=Jc t (ar.base+d) d s (s.ev x) k:=B7 rfl rfl
@[go_sem]def Qm{t:Nat}:opA ar E ⟨(S d),.alloc t,ty,ps,w,gd⟩ s k=wK t (E t) (ar.base+d) d s k:=B7 rfl rfl
@[go_sem]def Mx:opA ar E ⟨(S d),.makeMap t N,ty,ps,w,gd⟩ s k=lw E t (ar.base+d) d s k:=B7 rfl rfl
@[go_sem]def NC{x G:Operand}{ok:Bool}:opA ar E ⟨dst,.lookup t x G ok,ty,ps,w,gd⟩ s k=lW E t s (s.ev x) (s.ev G) ok (bx λv=>K (s.put dst v)):=B7 rfl rfl
@[go_sem]def IY{m G x:Operand}:opA ar E ⟨dst,.mapUpdate t m G x,ty,ps,w,gd⟩ s k=ed E t s (s.ev m) (s.ev G) (s.ev x) (bx λW=>K (W.put dst uv)):=B7 rfl rfl
@[go_sem]def Jt{f:FuncId}{first q:Array Operand}:opA ar E ⟨dst,.makeFunc (.func f) first q,ty,ps,w,gd⟩ s k=jm f (first.toList.map s.ev) (q.toList.map s.ev) (bx λv=>K (s.put dst v)):=B7 rfl rfl
@[go_sem]def QR{f:Operand}:opA ar E ⟨dst,.call ⟨.value f,a,ts⟩,ty,ps,w,gd⟩ s k=bm ar ⟨dst,.call ⟨.value f,a,ts⟩,ty,ps,w,gd⟩ s k:=B7 rfl rfl
@[go_sem]def Qn:iQ b q .ret s=Q .ret s:=B7 rfl rfl
@[go_sem]def ND:iQ b q (.exit n) s=Q (.exit n) s:=B7 rfl rfl
@[go_sem]def EM:iR n q .normal s=Q .normal s/\iR n q .ret s=Q .ret s:=by and_intros<;>exact B7 rfl rfl
@[go_sem]def My:qg q .ret s=Q .ret s:=B7 rfl rfl
@[go_sem]def Mz:=A0 @bG.eq_1 (A0 @pt.eq_1 (A0 @lS.eq_1 (A0 @lS.eq_2 (A0 @isStr.eq_1 (A0 @isSlice.eq_1 (A0 @dF.eq_2 (A0 @na.eq_1 (A0 @dF.eq_1 (A0 @tq.eq_1 (A0 @tq.eq_2 (A0 @qY.eq_1 (A0 @cellsOf.eq_1 (A0 @cellsOf.eq_2 (A0 @setAt.eq_1 (A0 @setAt.eq_2 (A0 @lr.eq_1 (A0 @ik.eq_1 (A0 @ik.eq_2 (A0 @tr.eq_1 (A0 @mW.eq_1 (A0 @mW.eq_2 (A0 @mW.eq_3 (A0 @mW.eq_4 (A0 @mW.eq_5 (A0 @mW.eq_6 (A0 @mW.eq_7 (A0 @mW.eq_8 (A0 @mW.eq_9 (A0 @mW.eq_10 (A0 @mW.eq_11 (A0 @mW.eq_12 (A0 @mW.eq_13 (A0 @mW.eq_16 (A0 @sameKind.eq_1 (A0 @mW.eq_17 (A0 @sameKind.eq_2 (A0 @Dk.eq_1 (A0 @Dk.eq_2 (A0 @Dk.eq_3 (A0 @Ah.eq_1 (A0 @Ah.eq_2 (A0 @Ah.eq_3 (A0 @Nr.eq_2 (A0 @unA.eq_1 (A0 @sa.eq_1 (A0 @sa.eq_3 (A0 @contents.eq_2 (A0 @contents.eq_4 (A0 @lT.eq_1 (A0 @lT.eq_2 (A0 @xS.eq_2 (A0 @xS.eq_3 (A0 @xS.eq_4 (A0 @jj.eq_1 (A0 @jj.eq_2 (A0 @pu.eq_1 (A0 @pu.eq_4 (A0 @Ak.eq_1 (A0 @jC.eq_1 (A0 @jX.eq_1 (A0 @il.eq_1 (A0 @il.eq_2 (A0 @qZ.eq_1 (A0 @tt.eq_1 (A0 @fe.eq_1 (A0 @Jc.eq_1 (A0 @wK.eq_1 (A0 @jk.eq_1 (A0 @jk.eq_2 (A0 @nb.eq_1 (A0 @jl.eq_1 (A0 @gw.eq_1 (A0 @gw.eq_2 (A0 @xT.eq_1 (A0 @xT.eq_2 (A0 @lV.eq_1 (A0 @lV.eq_2 (A0 @xV.eq_1 (A0 @datas.eq_2 (A0 @lw.eq_1 (A0 @EQ.eq_2 (A0 @nc.eq_2 (A0 @jm.eq_1 (A0 @lX.eq_1 (A0 @St.ev.eq_1 (A0 @St.ev.eq_2 (A0 @St.ev.eq_4 (A0 @xO.eq_1 (A0 @xO.eq_2 (A0 @xO.eq_3 (A0 @xO.eq_4 (A0 @xO.eq_5 (A0 @iQ.eq_1 (A0 @iR.eq_1 @St.newC.eq_1))))))))))))))))))))))))))))))))))))))))))))))))))))))))))))))))))))))))))))))))))))))))))))))
section steps
variable{f:Nat->AV}{g:Nat->Nat}{ob:Nat->Option (List C)}{Q:Exit->St->Prop}{q:Box Q}{K:St->Prop}{k:Box K}{ops:Array Oper}{rest:List Oper}
@[go_sem]def QT:wpC ar E .skip q ⟨f,g,ob⟩=Q .normal ⟨f,g,ob⟩:=B7 rfl rfl
@[go_sem]def Qo:wpC ar E (.label n) q ⟨f,g,ob⟩=Q .normal ⟨f,g,ob⟩:=B7 rfl rfl
@[go_sem]def Qp:wpC ar E (.scope c) q ⟨f,g,ob⟩=wpC ar E c (bx (qg q)) ⟨f,g,ob⟩:=B7 rfl rfl
@[go_sem]def QU:wpC ar E (.region n l.toArray T) q ⟨f,g,ob⟩=ky ar E n l.toArray ⟨f,g,ob⟩ q:=B7 rfl rfl
@[go_sem]def NE:wpC ar E (.region n l.toArray F) q ⟨f,g,ob⟩=wpO ar E l.toArray l ⟨f,g,ob⟩ (bx λW=>Q .normal W):=by simp[wpC]
@[go_sem]def Um{x y:Code}:wpC ar E (.seq x y) q ⟨f,g,ob⟩=wpC ar E x (bx (iQ (bx λW=>wpC ar E y q W) q)) ⟨f,g,ob⟩:=B7 rfl rfl
@[go_sem]def QV{c:Operand}{x y:Code}:wpC ar E (.cond c x y) q ⟨f,g,ob⟩=pt (St.ev ⟨f,g,ob⟩ c) (bx λb=>if b then wpC ar E x q ⟨f,g,ob⟩else wpC ar E y q ⟨f,g,ob⟩):=B7 rfl rfl
@[go_sem]def Qq:wpC ar E (.block n c) q ⟨f,g,ob⟩=wpC ar E c (bx (iR n q)) ⟨f,g,ob⟩:=B7 rfl rfl
@[go_sem]def QW:wpC ar E (.loop c) q ⟨f,g,ob⟩=ng ar (bx λQ s=>wpC ar E c (bx Q) s) q ⟨f,g,ob⟩:=B7 rfl rfl
@[go_sem]def QX:wpC ar E (.exit n) q ⟨f,g,ob⟩=Q (.exit n) ⟨f,g,ob⟩:=B7 rfl rfl
@[go_sem]def Un:wpC ar E .ret q ⟨f,g,ob⟩=Q .ret ⟨f,g,ob⟩:=B7 rfl rfl
@[go_sem]def Uo:wpO ar E ops [] ⟨f,g,ob⟩ k=K ⟨f,g,ob⟩:=B7 rfl rfl
@[go_sem]def QY{op:Op}:
  wpO ar E ops (⟨dst,op,ty,ps,w,N⟩::rest) ⟨f,g,ob⟩ k=opA ar E ⟨dst,op,ty,ps,w,N⟩ ⟨f,g,ob⟩ (bx λW=>wpO ar E ops rest W k):=B7 rfl rfl
@[go_sem]def QZ{op:Op}{j:Nat}{t:Bool}:
  wpO ar E ops (⟨dst,op,ty,ps,w,S (j,t)⟩::rest) ⟨f,g,ob⟩ k =
   bG ((ops[j]?).bind (·.dst)) (bx λd=>
    lS (f d) (bx λb=>if b=t then opA ar E ⟨dst,op,ty,ps,w,S (j,t)⟩ ⟨upd f d (bv b),g,ob⟩ (bx λW=>wpO ar E ops rest W k)
     else wpO ar E ops rest (St.put ⟨upd f d (bv b),g,ob⟩ dst uv) k) (bx (wpO ar E ops rest (St.put ⟨f,g,ob⟩ dst uv) k))):=B7 rfl rfl
end steps
@[go_sem]def St.put_some(s:St)(d:Nat)(v:AV):s.put (S d) v = {s with f:=upd s.f d v}:=B7 rfl rfl
@[go_sem]def St.put_none(s:St)(v:AV):s.put N v=s:=B7 rfl rfl
@[go_sem]def Qr:=@upd.eq_1
attribute [go_sem] Nat.reduceEqDiff Nat.reduceAdd Nat.reduceMul Nat.reduceSub Nat.reduceLT Nat.reduceLeDiff Int.reduceLT Int.reduceLE Int.reduceEq Int.reduceNe Int.reduceAdd Int.reduceNeg Int.reduceToNat
attribute [go_sem] if_true if_false ite_true ite_false and_true true_and List.length_map List.length_cons List.length_nil List.size_toArray Option.bind_some Option.map_some Option.map_none Option.bind_none cond_true cond_false List.append_nil List.cons_append List.set_cons_zero List.set_cons_succ List.set_nil List.drop_succ_cons List.take_succ_cons List.take_zero
attribute [go_sem] Array.getD_eq_getD_getElem? List.getElem?_toArray List.getElem?_cons_zero List.getElem?_cons_succ List.getElem?_nil Option.getD_some Option.getD_none List.getElem?_map
attribute [go_sem] List.drop_zero List.take_length Nat.mul_one Nat.zero_add List.map_cons List.map_nil List.nil_append reduceCtorEq not_true_eq_false not_false_eq_true implies_true Bool.not_true Bool.not_false Bool.true_eq_false Bool.false_eq_true
attribute [go_sem] Option.some.injEq Option.isSome_some decide_true decide_false ne_eq Int.toNat_natCast
end equations
end
end
end Go.Am

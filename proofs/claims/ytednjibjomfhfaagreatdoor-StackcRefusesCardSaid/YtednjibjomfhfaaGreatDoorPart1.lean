/- A part of the proof; no conditions. -/
import Derived.KernelRfl
import Derived.StillTail
import Derived.Deep.Quiet
set_option linter.all false
open List renaming length -> z
open Option renaming some -> S, none -> N
open Bool renaming true -> T, false -> F
namespace Go
section
def a6{P:Prop}(h:P:=by omega):P:=h
def a7{P:Prop}(h:P:=by decide):P:=h
def a8{P:Prop}(h:P:=by simp):P:=h
def b9{P:Prop}(h:P:=by decide +kernel):P:=h
def c8{P:Prop}(h:P:=by kernel_rfl):P:=h
def c9{P:Prop}(h:P:=by rfl):P:=h
def j0{P:Prop}(h:P:=by assumption):P:=h
abbrev j4:=@List.length_append
abbrev j5:=@List.length_map
abbrev j6:=@List.length_cons
abbrev j7:=@List.length_nil
abbrev j8:=@if_neg
abbrev l0:=@Nat.le_refl
abbrev l4:=@Bool.and_eq_true
abbrev l5:=@List.mem_of_getElem?
abbrev l6:=@List.append_assoc
abbrev l7:=@if_pos
abbrev l8:=@List.getElem?_eq_some_iff
abbrev l9:=@List.map_cons
abbrev r0:=@List.eq_nil_of_length_eq_zero
abbrev s5:=@List.append_nil
abbrev s6:=@List.take_of_length_le
abbrev s7:=@decide_eq_true_eq
abbrev s9:=@eq_true
abbrev u7:=@List.cons_append
abbrev v7:=@List.getElem?_cons_succ
abbrev v8:=@List.map_nil
abbrev w7:=@Bool.true_and
abbrev w8:=@True.intro
abbrev w9:=@Option.some.injEq
abbrev x6:=@And.intro
abbrev x7:=@List.all_eq_true
abbrev x8:=@Array.getD_eq_getD_getElem?
abbrev x9:=@List.nil_append
abbrev y1:=@List.getElem?_cons_zero
abbrev y2:=@List.drop_of_length_le
abbrev y7:=@List.getElem?_map
abbrev y8:=@List.getElem?_eq_getElem
abbrev y9:=@List.mem_cons
abbrev z6:=@List.getElem?_toArray
abbrev z7:=@decide_eq_false
abbrev z8:=@Option.map_some
abbrev A0:=@Bool.false_and
abbrev A1:=@List.flatMap_cons
abbrev A2:=@Option.getD_some
abbrev A3:=@Bool.false_eq_true
abbrev A4:=@List.not_mem_nil
abbrev A5:=@Array.getElem?_eq_getElem
abbrev A6:=@Eq.trans
abbrev A7:=@List.map_append
abbrev A8:=@List.drop_eq_getElem_cons
abbrev A9:=@Ne.symm
abbrev B1:=@List.drop_zero
abbrev B3:=@decide_eq_true
abbrev B4:=@List.take_add_one
abbrev B5:=@if_true
abbrev B6:=@Int.toNat_natCast
abbrev B7:=@List.length_singleton
abbrev B8:=@if_false
abbrev B9:=@Nat.zero_add
abbrev C0:=@Option.isSome_some
abbrev C1:=@Nat.le_trans
abbrev C2:=@List.length_take
abbrev C3:=@Bool.and_false
abbrev C4:=@List.all_cons
abbrev C5:=@List.take_succ_cons
abbrev C6:=@List.mem_singleton
abbrev C7:=@Nat.add_assoc
abbrev C8:=@Array.getElem?_eq_some_iff
abbrev C9:=@List.getElem?_of_mem
abbrev D0:=@Array.getElem?_replicate
abbrev D1:=@List.length_set
abbrev D2:=@List.drop_succ_cons
abbrev D3:=@Option.isSome_none
abbrev D4:=@List.length_drop
abbrev D5:=@List.getD_eq_getElem?_getD
abbrev D6:=@List.sum_cons
abbrev D7:=@List.mem_append
abbrev D8:=@List.flatten_cons
abbrev D9:=@List.getElem?_set
abbrev E0:=@List.getElem?_eq_none
abbrev E3:=@List.getElem?_append_right
abbrev E4:=@List.mem_range
abbrev E5:=@Bool.and_assoc
abbrev E6:=@List.replicate_succ
abbrev E7:=@or_false
abbrev E8:=@Option.some.inj
abbrev E9:=@Array.getElem?_append_left
abbrev F0:=@List.take_length
abbrev F1:=@List.drop_length
abbrev F2:=@Nat.add_mul
abbrev F3:=@Bool.or_eq_true
abbrev F6:=@List.take_zero
abbrev F7:=@Nat.lt_of_lt_of_le
abbrev F8:=@Nat.lt_of_le_of_lt
abbrev F9:=@List.take_append_drop
abbrev G0:=@List.takeWhile_cons
abbrev G1:=@List.getElem?_append_left
abbrev G2:=@List.all_append
abbrev G3:=@List.mem_map
abbrev G4:=@List.set_cons_zero
abbrev G5:=@Array.getElem_mem_toList
abbrev G6:=@List.getElem?_drop
abbrev G7:=@Array.getElem?_append_right
abbrev G8:=@Array.getElem?_toList
abbrev G9:=@Int.le_refl
abbrev Hk:=@Option.map_none
abbrev Hl:=@List.getElem?_take
abbrev H0:=@List.eq_of_mem_replicate
abbrev H2:=@Nat.le_of_ble_eq_true
abbrev H3:=@Bool.not_eq_true'
abbrev H4:=@Option.map_eq_some_iff
abbrev H5:=@List.flatMap_nil
abbrev H6:=@Array.ext'
abbrev H7:=@List.length_pos_iff
abbrev H8:=@List.contains_iff_mem
abbrev H9:=@List.singleton_append
abbrev I0:=@List.length_replicate
abbrev I1:=@Bool.and_true
abbrev I2:=@Prod.mk.injEq
abbrev I3:=@Nat.add_zero
abbrev I4:=@List.mem_mapIdx
abbrev I5:=@beq_iff_eq
abbrev I6:=@List.mem_cons_self
abbrev I7:=@Option.toList_some
abbrev I8:=@Option.bind_some
abbrev I9:=@Bool.not_false
abbrev J0:=@Array.getElem?_eq_none
abbrev J1:=@List.forall_mem_append
abbrev J2:=@Int.toNat_of_nonneg
abbrev J3:=@List.set_append_right
abbrev J4:=@Nat.sub_self
abbrev J5:=@Option.isSome_iff_exists
abbrev J6:=@List.getElem?_append
abbrev J7:=@List.mem_of_mem_drop
abbrev J8:=@List.length_eq_zero_iff
abbrev J9:=@List.flatMap_append
abbrev K7:=@decide_false
abbrev K8:=@List.append_eq_nil_iff
abbrev K9:=@Nat.mul_one
abbrev Lb:=@List.sum_append
abbrev Ll:=@Nat.div_le_self
abbrev Ln:=@Nat.pow_succ
abbrev LB:=@and_true
abbrev LD:=@Nat.mul_le_mul_right
abbrev L0:=@Array.getElem?_setIfInBounds_ne
abbrev L1:=@List.replicate_zero
abbrev L2:=@Nat.mod_eq_of_lt
abbrev L3:=@List.getElem_mem
abbrev L4:=@List.mapIdx_cons
abbrev L5:=@Nat.zero_le
abbrev L6:=@UInt8.toNat_ofNat'
abbrev L7:=@List.filter_eq_nil_iff
abbrev L8:=@Nat.div_div_eq_div_mul
abbrev L9:=@List.foldl_cons
abbrev M0:=@Array.getElem?_setIfInBounds
abbrev M1:=@List.dropLast_concat_getLast
abbrev M3:=@not_false_eq_true
abbrev M4:=@of_decide_eq_true
abbrev M5:=@List.ext_getElem?
abbrev M6:=@List.reverse_cons
abbrev M7:=@Array.getElem?_setIfInBounds_self_of_lt
abbrev M8:=@Nat.mod_lt
abbrev M9:=@List.getElem?_set_ne
abbrev N0:=@List.mem_of_mem_take
abbrev N1:=@List.isPrefixOf_iff_prefix
abbrev N2:=@List.getElem?_mapIdx
abbrev N3:=@Array.size_replicate
abbrev N4:=@List.mem_or_eq_of_mem_set
abbrev N5:=@List.getD_cons_zero
abbrev N6:=@Array.length_toList
abbrev N7:=@Bool.eq_iff_iff
abbrev N8:=@Int.natCast_mul
abbrev N9:=@List.nodup_cons
abbrev Ot:=@List.set_cons_succ
abbrev Ou:=@Array.all_eq_true'
abbrev Ov:=@List.map_replicate
abbrev Ow:=@List.getElem?_replicate
abbrev Oz:=@not_true_eq_false
abbrev OA:=@List.mapM_cons
abbrev OC:=@List.takeWhile_sublist
abbrev O0:=@List.length_eq_one_iff
abbrev O2:=@Array.getElem?_modify
abbrev O6:=@List.any_eq_true
abbrev O7:=@Array.eq_empty_of_size_eq_zero
abbrev O8:=@Bool.not_true
abbrev O9:=@Array.mem_toList_iff
abbrev Pz:=@List.mem_cons_of_mem
abbrev PA:=@List.range_eq_range'
abbrev PD:=@List.cons.injEq
abbrev PH:=@Nat.le_antisymm
abbrev P0:=@UInt8.toNat_inj
abbrev P1:=@List.range_succ
abbrev P2:=@List.getD_cons_succ
abbrev P3:=@Array.getElem?_push
abbrev P4:=@List.map_congr_left
abbrev P5:=@List.reverse_append
abbrev P6:=@List.map_map
abbrev P7:=@Nat.le_of_lt
abbrev P8:=@List.sum_nil
abbrev P9:=@List.map_set
abbrev Q0:=@Nat.pow_zero
abbrev Q1:=@List.count_pos_iff
abbrev Q2:=@List.drop_drop
abbrev Q3:=@BitVec.toNat_ofInt
abbrev Q4:=@Int.fdiv_eq_ediv_of_nonneg
abbrev Q5:=@Classical.byContradiction
abbrev Q6:=@Option.isNone_iff_eq_none
abbrev Q7:=@List.mem_of_find?_eq_some
abbrev Q8:=@List.getElem?_eq_none_iff
abbrev Q9:=@List.getLast?_eq_getElem?
abbrev R1:=@decide_true
abbrev R2:=@Array.getElem_mem
abbrev R3:=@List.mapM_toArray
abbrev R4:=@or_true
abbrev R5:=@List.isEmpty_cons
abbrev R6:=@Bool.false_or
abbrev R7:=@Array.size_setIfInBounds
abbrev R8:=@true_and
abbrev R9:=@Option.getD_none
abbrev Sf:=@Nat.le_add_right
abbrev Sk:=@decide_eq_false_iff_not
abbrev Sl:=@List.countP_cons
abbrev Sn:=@Nat.le_mul_of_pos_right
abbrev So:=@Nat.add_sub_cancel_left
abbrev Sv:=@Nat.lt_or_ge
abbrev SH:=@List.getElem?_set_self
abbrev SJ:=@Nat.mul_comm
abbrev SO:=@List.head?_eq_getElem?
abbrev S7:=@true_or
abbrev S8:=@List.mem_filter
abbrev S9:=@Bool.and_eq_false_iff
abbrev Ta:=@Array.mem_of_getElem?
abbrev TU:=@List.countP_replicate
abbrev TV:=@List.foldl_nil
abbrev TW:=@not_or
abbrev TX:=@List.nodup_nil
abbrev TY:=@Nat.div_one
abbrev TZ:=@cond_false
abbrev T0:=@List.all_nil
abbrev T1:=@cond_true
def dM{P:Prop}(h:P:=by
 simp only[go_sem];refine⟨_,ae.refl _,?_⟩;simp only[go_sem];exact bD.nil (λi hi=>⟨nt ((fr i hi).1),nt ((fr i hi).2)⟩) (q:=[bv F]) ⟨_,_,rfl,.one (.d _),rfl⟩ ⟨rfl,rfl,rfl⟩):P:=h
def dT{P:Prop}(h:P:=by
 cases yt
 .simp only[A0,C3]at a
  subst a;exact dM
 simp only[go_sem,q0,q4,o4];refine cG aa rfl a' (by simp only[go_sem];rfl) (B+65) a6 (λi hi=>nt (L i a6)) ((E.mono hB fr).mono hB λi hi=>⟨nu,nu⟩) ?_;cases ye
 .simp only[A0,C3]at a
  subst a;exact dM
 simp only[w7]at a;simp only[go_sem,u,hw];refine ai (m-1) a6 ⟨k+1,a6,a,?_⟩;simp only[go_sem,q0,q4,q9,G,o4];exact⟨λj hj=>⟨nt ((fr j hj).1),nt ((fr j hj).2)⟩,λj hj=>nt (L j hj)⟩):P:=h
def gD{P:Prop}(h:P:=by
 rintro r g' Z ⟨f1,f2⟩;simp only[go_sem];exact bH (.inr rfl) (fin (λi hi=>by (try simp only[upd]);repeat (rw[j8 (by omega)]);try rfl) (λi hi=>by (try simp only[upd]);repeat (rw[j8 (by omega)]);try rfl) f1 f2)):P:=h
def gG{P:Prop}(h:P:=by
 refine fg (f:=231) rfl (by simp only[go_sem]) (by simp only[go_sem];exact iS _) (by simp only[go_sem];rfl) ?_;rintro _ rfl;simp only[go_sem];exact⟨_,eX rfl,rfl⟩):P:=h
def gH{P:Prop}(h:P:=by
 refine cG aa rfl (W 1) (by simp only[go_sem];rfl) (B+65) a6 (λi hi=>nt (L i a6)) ((E.mono hB fr).mono hB λi hi=>⟨nu,nu⟩) ?_;cases c:dj fs 1 es
 .rw[c]at a
  simp only[A0,C3]at a;subst a;exact dM
 rw[c]at a;simp only[w7]at a;simp only[go_sem,q0,q4,o4];refine cG aa rfl p (by simp only[go_sem];rfl) (B+65) a6 (λi hi=>nt (L i a6)) ((E.mono hB fr).mono hB λi hi=>⟨nu,nu⟩) ?_;exact dT):P:=h
def gI{P:Prop}(h:P:=by
 refine this.mono λe w' hE=>?_;rcases hE with⟨v,r,g',Z,E,he,hR,hv,U,Y,h3⟩|⟨ch,g',Z,E,he,b,U,Y,h3⟩
 .subst he
  obtain⟨k1,k2⟩:=ja V c hv U Y h3;exact⟨k1.defers,hn _ E _ w' ⟨r,g',Z,hR,rfl⟩ k1 (a1 _ _ _ _ _ _ _ A k2)⟩
 .subst he
  have hk:ft O β s.gen s.obj w E g' Z w':=h3.keep;have ht:Tr O β s w E ⟨s.f,g',Z⟩ w':=⟨h3.size,h3.old,hk,h3.os⟩
  exact g ch ⟨s.f,g',Z⟩ E a w' (I _ _ _ b) ⟨V.defers,V.size,λi=>ag.keep hk _ (V.f i),U,Y,C1 V.base h3.size⟩ (a1 _ _ _ _ _ _ _ A ht)):P:=h
def gJ{P:Prop}(h:P:=by
 rintro n f g' Z ⟨k,hk,q0,q4,q3,q⟩;simp only at q0 q4 q3 q;have hw:=ab (k:=k) a6;by_cases af:k<32
 .have H:(k:Int)<32:=a6
  have u:a/2^k<4294967296:=F8 (Ll _ _) ha;have m:a/2^(k+1)=a/2^k/2:=by rw[Ln,L8]
  have Q:=ya (a:=a) af;generalize a/2^k=v at q0 u m Q;have hm:(v:Int).tmod 2=((v%2:Nat):Int):=rfl;have hd:(v:Int).tdiv 2=((v/2:Nat):Int):=rfl;have e:IntKind.i64.wrap ((v%2:Nat):Int)=((v%2:Nat):Int):=by rw[wrap_i64]<;>omega
  have b:IntKind.u32.wrap ((v%2:Nat):Int)=((v%2:Nat):Int):=eE a6;have b2:IntKind.u32.wrap ((v/2:Nat):Int)=((v/2:Nat):Int):=eE a6;rcases q3 with⟨an,q3⟩|⟨an,q3,o⟩
  .simp only[go_sem,q0,q3,q4,H,hm,hd,e,b,b2,hw]
   refine⟨⟨a7,a7⟩,?_⟩;refine cZ (P:=Tryz.prog) (n-1) a6 ⟨k+1,a6,?_⟩;simp only[go_sem,m];subst an;refine⟨.inr ⟨a6,rfl,?_⟩,λi hi=>?_⟩
   .rw[Q];rfl
   ·(repeat rw[j8 (by omega)]);exact q i hi
  .simp only[go_sem,q0,q3,q4,o,H,hm,hd,e,b,b2,hw]
   refine⟨by simp[ks,dW];omega,⟨a7,a6⟩,?_⟩;refine cZ (P:=Tryz.prog) (n-1) a6 ⟨k+1,a6,?_⟩;simp only[go_sem,m];refine⟨.inr ⟨a6,?_⟩,λi hi=>?_⟩
   .rw[Q,s6 (by simp[ks,dW];omega)];simp[ks]
   ·(repeat rw[j8 (by omega)]);exact q i hi
 .have H:¬(k:Int)<32:=a6
  obtain rfl:k=32:=a6;rcases q3 with⟨an,q3⟩|⟨an,q3,o⟩
  .omega
  rw[s6 (by rw[dW];decide)]at o;simp only[go_sem,q0,q3,q4,show ¬((32:Nat):Int)<32 by decide];exact bH (.inl rfl) ⟨by simp[lM,upd],o,q⟩):P:=h
def gT{P:Prop}(h:P:=by
 intro r g2 b3 S2 K2;simp only[go_sem];refine⟨_,ae.refl _,?_⟩;simp only[go_sem];exact an.pack S2 (w.trans (cY.down (h.trans K2) a6)) (by simp only[aw,ao,ax,Emit.lR,Emit.nk,j4,j6,j7,l6,s5,x9]) (by simp only[aw,ao,ax,Emit.lR,Emit.nk,j4,j6,j7,l6,s5,x9]) (q:=[]) rfl):P:=h
def hx{P:Prop}(h:P:=by (try simp only[upd]);(repeat rw[j8 (by omega)])):P:=h
def hC{P:Prop}(h:P:=by
 refine⟨_,ae.refl _,?_⟩;simp only[go_sem];exact bD.nil (λi hi=>⟨nu,nu⟩) (q:=[iv .i64 0]) ⟨_,_,rfl,.one (.d _),rfl⟩ ⟨rfl,rfl,rfl⟩):P:=h
def hD{P:Prop}(h:P:=by
 have p:∀l:List Operand,(l.map s.ev).all fk=T->RVs (Imm O β s.obj w) w (l.map s.ev) (l.map a.eval):=by
  intro l
  induction l with
  |nil=>intro _;simp only[v8,RVs]
  |cons x l ih=>
    intro h;simp only[l9,C4,l4]at h;simp only[l9,RVs];exact⟨_,_,rfl,ag.data h.1 (V.ev x),ih h.2⟩
 have:=hp.2 (Imm O β s.obj w) w (args.toList.map a.eval) (m _ _ _ _ A).2 (λ_ h=>h.1) (p _ hd);rw[show (args.toList.map a.eval).toArray=args.map a.eval from H6 a8]at this;refine this.mono λe w'⟨v,r,he,hR,hs,hh,q,hv⟩=>?_;subst he;obtain⟨g1,g2⟩:=V.grow hs hh q;have g3:=g2.trans (Tr.same (St.put_gen s op.dst r) (St.put_obj s op.dst r) rfl);have U:=g1.put c (RV.rep r (RV.mono (λb hb=>⟨uP V (J:=λb=>Imm O β s.obj w b\/b<=X) (λb h=>h.elim id (vv V (m _ _ _ _ A))) hb,rfl⟩) r hv));exact⟨U.defers,hn _ β _ w' ⟨r,hR,rfl⟩ U (a1 _ _ _ _ _ _ _ A g3)⟩):P:=h
def hG{P:Prop}(h:P:=by simp only[go_sem]):P:=h
def hH{P:Prop}(h:P:=by
 have:(vs.toArray++Array.replicate (fn.ntmps-vs.toArray.size) undef).getD i undef=undef:=by
  rw[x8,G7 (by simp;omega)];simp[D0];split<;>rfl
 rw[this];exact cL):P:=h
def hK{P:Prop}(h:P:=by
 rw[b1,cJ]at h;have c:=EP (fs:=fs) (gr:=gr) (gm:=gm) (szE W) W (l0 _) a6;obtain⟨y,hy⟩:∃y,ie fs W=y:=⟨_,rfl⟩
 rw[hy]at h c;obtain⟨t,w,s,o,r⟩:=W;have b2:exD (.mk t w s o r)=[.int .i64 t,.int .i64 w,.int .u32 s,.str o,.sl (r.map exD)]:=by simp only[exD,aA]
 simp only[go_sem,q0,bk,A,U,P,bz,ca,b2];refine cG aa rfl c (by simp only[go_sem,exV,b2,l9,v8]) (B+57) a6 (λi hi=>nt (L i a6)) ((E.mono hB fr).mono hB λi hi=>⟨nu,nu⟩) ?_;cases y
 .simp only[A0]at h
  subst h;exact dM
 .simp only[w7]at h
  simp only[go_sem,U,ch];refine ai (m2-1) a6 ⟨n+1,a6,h,?_⟩;simp only[go_sem,q0,q6,q9,G,u,bk,A,o6];exact⟨λj hj=>⟨nt ((fr j hj).1),nt ((fr j hj).2)⟩,λj hj=>nt (L j hj)⟩):P:=h
def hM{P:Prop}(h:P:=by
 simp only[Oper.upon]
 have p:∀l:List Operand,(l.map s.ev).all fk=T->RVs (Imm O β s.obj w) w (l.map s.ev) (l.map a.eval):=by
  intro l
  induction l with
  |nil=>intro _;simp only[v8,RVs]
  |cons x l ih=>
    intro h;simp only[l9,C4,l4]at h;simp only[l9,RVs];exact⟨_,_,rfl,ag.data h.1 (V.ev x),ih h.2⟩
 have:=hp.2 (Imm O β s.obj w) w (args.toList.map a.eval) (λ_ h=>h.1) (p _ hd);rw[show (args.toList.map a.eval).toArray=args.map a.eval from H6 a8]at this;refine this.mono λe w'⟨v,r,he,hR,hs,hh,q,hv⟩=>?_;subst he;obtain⟨g1,g2⟩:=V.grow hs hh q;refine hn _ β _ w' ⟨r,hR,rfl⟩ (g1.put c (RV.rep r (RV.mono (λb hb=>⟨uP V (λ_ h=>h) hb,rfl⟩) r hv))) (g2.trans (Tr.same (St.put_gen _ _ _) (St.put_obj _ _ _) rfl))):P:=h
def hO{P:Prop}(h:P:=by
 have:∀(es:List (List D))(_:∀e∈es,z e=sz)i,es[i]?=S e->es.flatten[i*sz+j]?=S x:=by
  intro es
  induction es with
  |nil=>intro _ i h;simp at h
  |cons B es n=>
    intro hs i h;have hl:=hs B a8;cases i with
    |zero=>
      simp at h;subst h;rw[D8,G1 (by simpa using(l8.1 I).1)];simpa using I
    |succ i=>
      rw[D8,E3 (by rw[hl,F2];omega),hl,show (i+1)*sz+j-sz=i*sz+j by rw[F2];omega];exact n (λe h=>hs e (by simp[h])) i (by simpa using h)
 exact this es bc i he):P:=h
def hV{P:Prop}(h:P:=by
 rw[Y,cJ]at a;have c:=ih (szE e) a6 e (l0 _) a6;obtain⟨y,hy⟩:∃y,ie fs e=y:=⟨_,rfl⟩
 rw[hy]at a c;obtain⟨t,w,s,o,r⟩:=e;have hE:exD (.mk t w s o r)=[.int .i64 t,.int .i64 w,.int .u32 s,.str o,.sl (r.map exD)]:=by simp only[exD,aA]
 simp only[go_sem,q0,q9,G,u,H,an,he,hE];refine cG aa rfl c (by simp only[go_sem,exV,hE,l9,v8]) (B+36) a6 (λi hi=>nt (L i a6)) ((E.mono hB fr).mono hB λi hi=>⟨nu,nu⟩) ?_;cases y
 .rw[A0]at a
  subst a;exact dM
 .rw[w7]at a
  simp only[go_sem,u,hw];refine ai (m-1) a6 ⟨k+1,a6,a,?_⟩;simp only[go_sem,q0,q9,G];exact⟨λj hj=>⟨nt ((fr j hj).1),nt ((fr j hj).2)⟩,λj hj=>nt (L j hj)⟩):P:=h
def hY{P:Prop}(h:P:=by
 obtain rfl:X=F:=by
  have:¬el=[]:=λe=>by rw[e]at a';exact absurd a' a7
  rw[<-hz];simp[cp,this]
 simp only[go_sem,j,j5,a']):P:=h
def h1{P:Prop}(h:P:=by
 subst a;simp only[go_sem,G,u,H];refine⟨_,ae.refl _,?_⟩;simp only[go_sem];exact bD.nil fr (q:=[bv T]) ⟨_,_,rfl,.one (.d _),rfl⟩ ⟨rfl,rfl,rfl⟩):P:=h
def h2{P:Prop}(h:P:=by exact⟨λj hj=>⟨nt ((fr j hj).1),λh5 h6=>nt ((fr j hj).2 h5 h6)⟩,λj hj=>nt (L j hj)⟩):P:=h
def j1{P:Prop}(h:P:=by
 refine dt hE rfl (by simp only[go_sem]) (B+200) a6 (frB hf bz) ca (by (try simp only[j4,j6,j7]);omega) ?_;intro g2 b3 cb A;have e2:=x6 ((aW hB A 4).1.trans e1.1) ((aW hB A 4).2.trans e1.2);simp only[go_sem,e2.1,e2.2];refine du aL (uy [41,59]) rfl (by simp only[go_sem]) (by simp only[go_sem]) (B+200) a6 (frB hf (al bz A)) cb (by (try simp only[j4,j6,j7]);omega) ?_;intro g3 cf bf bd;have e3:=x6 ((aW hB bd 4).1.trans e2.1) ((aW hB bd 4).2.trans e2.2);simp only[go_sem,e3.1,e3.2];exact⟨_,ae.refl _,dZ hB (by simpa only[l6,u7,x9]using bf) (qj (al (al bz A) bd))⟩):P:=h
def j2{P:Prop}(h:P:=by
 intro g2 b3 p2 q2 r2;simp only[go_sem];refine bS (λi=>decide (K<=i)) ?_;exact⟨rfl,X _ rfl _ _ p2⟩):P:=h
def j3{P:Prop}(h:P:=by
 intro r g4 c0 L J;simp only[go_sem];refine⟨_,ae.refl _,?_⟩;simp only[go_sem];exact an.pack L (w.trans (cY.down (h.trans (K2.trans (v.trans J))) a6)) (by simp only[aw,ao,ax,Emit.lR,Emit.nk,j4,j6,j7,l6,s5,x9]) (by simp only[aw,ao,ax,Emit.lR,Emit.nk,j4,j6,j7,l6,s5,x9]) (q:=[]) rfl):P:=h
def j9{P:Prop}(h:P:=by
 rw[hf]at b;simp only[z8,thD]at b;simp only[go_sem,Q,n2,n3,kJ,j,hm,D3,C0,b,a];refine⟨_,ae.refl _,?_⟩;simp only[go_sem];refine bD.two (m:=M) (n:=[.d (.bool F)]) (λi hi ha hb=>⟨by (try simp only[upd]);(repeat rw[j8 (by omega)]),by (try simp only[upd]);(repeat rw[j8 (by omega)])⟩) (by (try simp only[upd]);(repeat rw[j8 (by omega)])) (by (try simp only[upd]);(repeat rw[j8 (by omega)])) (by simp only[upd];(repeat rw[j8 (by omega)]);exact hm) (by simp[upd]) hd.low Gl (q:=[]) rfl ⟨rfl,M,mo.old hf,hd,by rw[hf];simp⟩):P:=h
def kb{P:Prop}(h:P:=by exact λ_ _ _ h=>h.elim):P:=h
def km{P:Prop}(h:P:=by
 have e1:=congrFun u;simp only[upd]at e1;rw[e1]at hj|-;by_cases n:e.on=i
 .rw[l7 n]
 .rw[j8 n]
  by_cases b6:j=i
  .subst b6
   rw[ho]at H;cases H;exact f e he hb
  .rw[j8 b6]at hj
   exact hid j l hj H e he hb):P:=h
def kt{P:Prop}(h:P:=by
 obtain rfl:X=F:=by
  have:¬th=[]:=λe=>by rw[e]at p;exact absurd p a7
  rw[<-hz];simp[cp,this]
 simp only[go_sem,j,j5,a',p]):P:=h
def k6{P:Prop}(h:P:=by
 cases yt
 .simp only[A0]at h
  subst h;exact dM
 simp only[go_sem,q0,q6,o6];refine cG aa rfl a' (by simp only[go_sem];rfl) (B+57) a6 (λi hi=>nt (L i a6)) ((E.mono hB fr).mono hB λi hi=>⟨nu,nu⟩) ?_;cases ye
 .simp only[A0,C3]at h
  subst h;exact dM
 simp only[w7]at h;simp only[go_sem,u,hw];refine ai (m-1) a6 ⟨k+1,a6,h,?_⟩;simp only[go_sem,q0,q9,G];exact⟨λj hj=>⟨nt ((fr j hj).1),nt ((fr j hj).2)⟩,λj hj=>nt (L j hj)⟩):P:=h
def k9{P:Prop}(h:P:=by
 simp only at q0 q6 q9 G u bk A U o6 fr L;have ch:=ab (k:=n) a6;by_cases bf:n<z es
 .have P:(n:Int)<(z es:Int):=a6
  have bz:(0:Int)<=(n:Int):=a6;obtain⟨W,ca⟩:=getq bf;have b7:=Src.se (l5 ca);have b1:es.drop n=W::es.drop (n+1):=by rw[A8 bf,(l8.1 ca).2]
  exact hK
 have P:¬(n:Int)<(z es:Int):=a6;obtain rfl:n=z es:=a6;rw[F1,cJ,w7]at h;simp only[go_sem,q0,q6,A,U,P,o6];refine cG aa rfl p (by simp only[go_sem];rfl) (B+57) a6 (λi hi=>nt (L i a6)) ((E.mono hB fr).mono hB λi hi=>⟨nu,nu⟩) ?_;exact k6):P:=h
def la{P:Prop}(h:P:=by
 refine aq (λm K=>∃n:Nat,m+n=z es/\(cJ fs (es.drop n)&&(yt&&ye)&&cj fs (l.drop (k+1)))=X/\K.f 0=.one (.ptr 1012 gr 0)/\K.f 6=.one (.ptr (B+6) (K.gen (B+6)) 0)/\K.f 11=.one (.d (.sl (l.map smD)))/\K.f 12=iv .i64 (z l)/\K.f 13=iv .i64 k/\K.f 33=.one (.d (.sl (es.map exD)))/\K.f 34=iv .i64 (z es)/\K.f 35=iv .i64 n/\
   K.obj (B+6)=S [.d (.int .i64 kind),.d (.str name),.d (.sl (es.map exD)),.d (.sl (th.map smD)),.d (.sl (el.map smD))]/\(∀j,j<B->K.gen j=g j/\K.obj j=ob j)/\(∀j,B+57<=j->K.obj j=N)) (z es) ?_ ?_
 .refine⟨0,rfl,by rw[B1];exact a,?_⟩
  simp only[go_sem,q0,q9,G,u,Q,n2];exact⟨λj hj=>⟨nt ((fr j hj).1),nt ((fr j hj).2)⟩,λj hj=>nt (L j hj)⟩
 clear q0 q9 G u fr L or om I b bc Z;rintro m2 f g1 ad ⟨n,hn,h,q0,q6,q9,G,u,bk,A,U,o6,fr,L⟩;exact k9):P:=h
def lb{P:Prop}(h:P:=by
 obtain⟨v,U,Y⟩:=hv.get I;have af:i<z vs:=(l8.1 U).1
 have:(vs.toArray++Array.replicate (fn.ntmps-vs.toArray.size) undef).getD i undef=v:=by
  rw[x8,E9 (by simpa using af)];simp[U]
 rw[this];simpa only[A2]using Y):P:=h
def ld{P:Prop}(h:P:=by
 simp only[go_sem,hg,t];refine ct rfl (by simp only[go_sem];exact u _ _ (U.same (λi hi=>by (try simp only[upd]);repeat (rw[j8 (by omega)]);try rfl) (λi hi=>by (try simp only[upd]);repeat (rw[j8 (by omega)]);try rfl)) x) ?_;exact gD):P:=h
def lk{P:Prop}(h:P:=by
 rintro _ g' Z ⟨rfl,rfl⟩;simp only[go_sem,y,hw];refine ai (m-1) a6 ⟨k+1,a6,?_⟩;simp only[go_sem,q1,q3,q5,q6,E,w,e1.1,c.1,e5.1,l.1,e1.2,c.2];refine⟨?_,?_,⟨M,rfl,I⟩,λj hj=>?_⟩
 .rw[lT _ he,<-E5,h5,jY,hu]
  first|rfl|(simp;done)|(rw[w7];rfl)
 .rw[lT _ he,h6]
  rfl
 ·(try simp only[upd]);(repeat rw[j8 (by omega)])
  rw[(fr j (.inr a6)).2]
  (try simp only[upd]);(repeat rw[j8 (by omega)])
  exact L j a6):P:=h
def lv{P:Prop}(h:P:=by
 refine⟨a6,?_⟩;simp only[go_sem,e8,c7];refine ai (m-1) a6 ⟨j+1,a6,?_⟩;simp only[go_sem,p0,p6,e5,e7,c7,Q,n3,m1,bs,c1];refine⟨by rw[X _ gi],hb.to (λi hi=>?_) (λi hi=>⟨?_,?_⟩),λi hi U Y h3 h4 h5=>⟨?_,?_⟩⟩
 .exact nt (F5.an.top i hi)
 .have:i≠B+8:=a6
  exact hx
 .have:i≠B+8:=a6
  have:i≠B+37:=a6;exact hx
 .exact nt ((O5 i hi U Y h3 h4 h5).1)
 .exact nt ((O5 i hi U Y h3 h4 h5).2)):P:=h
def l1{P:Prop}(h:P:=by
 have bs:∀i,i<ops.size->b.getD i T=T:=λi hi=>by
  have cd:F∉b.toList:=λh=>by
   have:=Q1.2 h;omega
  rw[x8,A5 a6];simp only[A2];cases hq:b[i]'a6 with
  |true=>rfl
  |false=>exact absurd (hq▸O9.2 (R2 a6)) cd
 have an:Region.ready .any ops b=[]:=by
  unfold Region.ready;rw[L7];intro i hi;simp[bs i (E4.1 hi)]
 exact⟨an,hQ _ s β a w hI V A ⟨b,rfl,bc,an⟩⟩):P:=h
def l2{P:Prop}(h:P:=by
 intro g2 b3 p2 q2 r2;simp only[go_sem];refine bS (λi=>decide (K<=i)) ?_;exact⟨rfl,X _ _ _ p2⟩):P:=h
def l3{P:Prop}(h:P:=by
 obtain⟨fn,U,Y,h3⟩:=hp.1;have Y:¬fn.body=N:=by intro h;rw[h]at Y;simp at Y
 have h3:¬fn.name = "runtime.NumGoroutine":=by simpa using h3
 simp[execOp,ho,resolve,Act.eval,c1,Deferred.ofValue,invoke,callFunc,U,Y,h3]):P:=h
def mc{P:Prop}(h:P:=by
 obtain⟨fn,U,Y,h3⟩:=hp.1;have Y:¬fn.body=N:=by intro h;rw[h]at Y;simp at Y
 have h3:¬fn.name = "runtime.NumGoroutine":=by simpa using h3
 simp[execOp,ho,resolve,Act.eval,hv,Deferred.ofValue,invoke,callFunc,U,Y,h3]):P:=h
def ml{P:Prop}(h:P:=by
 refine cG aa rfl (W 2) (by simp only[go_sem];rfl) (B+65) a6 (λi hi=>nt (L i a6)) ((E.mono hB fr).mono hB λi hi=>⟨nu,nu⟩) ?_;cases c:dj fs 2 es
 .rw[c]at a
  simp only[A0,C3]at a;subst a;exact dM
 rw[c]at a;simp only[w7]at a;simp only[go_sem,q0,q4,o4];refine cG aa rfl p (by simp only[go_sem];rfl) (B+65) a6 (λi hi=>nt (L i a6)) ((E.mono hB fr).mono hB λi hi=>⟨nu,nu⟩) ?_;exact dT):P:=h
def mF{P:Prop}(h:P:=by
 intro a2 q2 Y;have e:=L ⟨_,_,Y⟩;rw[Y]at e;cases e;simp only[go_sem,Q,n2];exact J ⟨_,_,Y⟩):P:=h
def mM{P:Prop}(h:P:=by
 obtain rfl:X=F:=by rw[<-hz];simp[bI,u]
 simp only[go_sem,j,u]):P:=h
def mS{P:Prop}(h:P:=by
 simp only[go_sem,j,u,i,P];by_cases c:(z kids:Int)=2
 case neg=>
  obtain rfl:X=F:=by
   have:¬z kids=2:=a6;rw[<-hz];simp[bI,this]
  simp only[go_sem,j5,c]
 simp only[go_sem,j5,c,cc];refine bT rfl (by simp only[go_sem,cc];exact J) ?_;rintro _ rfl
 obtain rfl:X=aU (q+1) kids:=by
  have:z kids=2:=a6;rw[<-hz];simp[bI,ah,a1,this,P,i,u]
 exact hG):P:=h
def nm{P:Prop}(h:P:=by
 have hw:=ab (k:=k) a6;by_cases af:k<z kids
 case neg=>
  have H:¬(k:Int)<(z kids:Int):=a6;obtain rfl:k=z kids:=a6;rw[F1,cJ]at a;exact h1
 have H:(k:Int)<(z kids:Int):=a6;have an:(0:Int)<=(k:Int):=a6;obtain⟨e,he⟩:=getq af;have n:=Src.se (l5 he);have Y:kids.drop k=e::kids.drop (k+1):=by rw[A8 af,(l8.1 he).2]
 exact hV):P:=h
def ns{P:Prop}(h:P:=by
 refine cG aa rfl h (by simp only[go_sem];rfl) (B+20) a6 (λi hi=>nt (hf i a6)) (E.mono hB λi hi=>⟨nu,nu⟩) ?_;simp only[go_sem];cases dj fs 1 kids
 .simp only[go_sem]
  exact hC
 .simp only[go_sem]
  refine⟨_,ae.refl _,?_⟩;simp only[go_sem];exact bD.nil (λi hi=>⟨nu,nu⟩) (q:=[iv .i64 1]) ⟨_,_,rfl,.one (.d _),rfl⟩ ⟨rfl,rfl,rfl⟩):P:=h
def n1{P:Prop}(h:P:=by
 have e:g1 (B+3)=l:=(h.gen (B+3) a6 a6 a6).trans (by simp only[upd];rw[l7 trivial]);simp only[go_sem,c,e];refine bn aa rfl (nr hP 1 0 a7) (B+10) G D H u _ _ (by first|rfl|simp only[go_sem,c,e,bQ]) b8 o (by first|exact hl|((try simp only[aw,ao,ax,Emit.lR,Emit.nk,j4,j6,j7]);omega)) (by first|exact hh|((try simp only[aw,ao,ax,Emit.lR,Emit.nk,j4,j6,j7,s5]);omega)) ?_;exact gT):P:=h
def oc{P:Prop}(h:P:=by
 obtain rfl:X=F:=by rw[<-hz];simp[bI,i]
 simp only[go_sem,j,u,i]):P:=h
def oj{P:Prop}(h:P:=by
 simp only[z6,y1,v7,w9]at u;subst u;simp only[go_sem,k3,k8,a,hc];exact r9):P:=h
def oo{P:Prop}(h:P:=by
 obtain⟨v,U,Y⟩:=av _ _ hv i x I;have af:i<z vs:=(l8.1 U).1
 have:(vs.toArray++Array.replicate (fn.ntmps-vs.toArray.size) undef).getD i undef=v:=by
  rw[x8,E9 (by simpa using af)];simp[U]
 rw[this];simp only[A2];exact RV.rep x (RV.mono (λb hb=>⟨⟨hJ b hb,λ_=>hb,λid a ho=>by cases ho⟩,rfl⟩) x Y)):P:=h
def ov{P:Prop}(h:P:=by
 simp only[z6,y1,v7,w9]at u;subst u;simp only[go_sem,k3,a,hc];exact r9):P:=h
def oy{P:Prop}(h:P:=by
 refine⟨_,ae.refl _,?_⟩;simp only[go_sem];exact bD.nil (λi hi=>⟨nt ((fr i hi).1),nt ((fr i hi).2)⟩) (q:=[bv F]) ⟨_,_,rfl,.one (.d _),rfl⟩ ⟨rfl,rfl,rfl⟩):P:=h
def oC{P:Prop}(h:P:=by
 rintro _ rfl;simp only[go_sem];exact J):P:=h
def oL{P:Prop}(h:P:=by
 have b6:(j:Int)<(z out:Int):=a6;have ek:(0:Int)<=(j:Int):=a6;obtain⟨v,hv⟩:=getq B;have dh:=Y v (l5 hv);simp only[go_sem,A,G,J,P,b6,ek,hv,c7,j5];rw[A8 B,Emit.yL,show out[j]=v from(l8.1 hv).2]at K;refine eA (m-1) a6 ⟨j+1,max V v,a6,K,a6,a6,?_⟩;simp only[go_sem,f1,f2,f3,u,p,f4,A,G,o1,o2,o3,r,x,q]):P:=h
def oR{P:Prop}(h:P:=by
 refine bT rfl (by simp only[go_sem];exact W) ?_;rintro _ rfl;simp only[go_sem,q1,q4,e,q5,h,q6,an,H];refine⟨by simp only[j4,j6,dk];omega,by simp only[j4,j6,bc];omega,?_⟩;simp only[go_sem,q6,hw];refine cZ m a6 ⟨k+1,a6,?_⟩;simp only[go_sem,q1,i,j,q4,q5];exact⟨by rw[cu,b8],by rw[bz,t]⟩):P:=h
def o8{P:Prop}(h:P:=by
 obtain⟨U,Y,h3⟩:=h;refine⟨U,C1 Y (hk.gen id),λhg ho=>?_⟩;have e:g' id=g id:=PH a6 (hk.gen id);obtain⟨q,J,_⟩:=hk.live id e ho;rw[J];exact h3 a6 q):P:=h
def p8{P:Prop}(h:P:=by
 refine⟨_,ae.refl _,?_⟩;simp only[go_sem,Q,n2];exact bD.nil (λi hi=>⟨by (try simp only[upd]);(repeat rw[j8 (by omega)]);first|done|rfl|exact(c i hi).1,by (try simp only[upd]);(repeat rw[j8 (by omega)]);first|done|rfl|exact(c i hi).2⟩) (q:=[sQ (S t)]) ⟨_,_,rfl,Gk (thD t),rfl⟩ ⟨rfl,rfl,rfl⟩):P:=h
def p9{P:Prop}(h:P:=by exact⟨X,Z,U,λw' b0=>by simp[execOp,Y w' b0],h3⟩):P:=h
def qc{P:Prop}(h:P:=by
 simp only[go_sem,hg,t];exact⟨a6,bH (.inl rfl) (FrW.from (U.done (m':={m with steps:=m.steps+1,fin:=8}) t (λi hi=>by (try simp only[upd]);repeat (rw[j8 (by omega)]);try rfl) (λi hi=>by (try simp only[upd]);repeat (rw[j8 (by omega)]);try rfl) (by simp[upd]<;>rfl) rfl rfl λ_ _ _ V=>V.setFin 8) L)⟩):P:=h
def qo{P:Prop}(h:P:=by
 by_cases Y:x.op=3\/x.op=9\/x.op=13
 .omega
 by_cases h3:x.op=4\/x.op=7
 .omega
 by_cases h4:x.op=5
 .omega
 by_cases h5:x.op=6
 .omega
 by_cases h6:x.op=8
 .omega
 by_cases h7:x.op=10
 .omega
 by_cases h8:x.op=11
 .omega
 rw[j8 U,j8 Y,j8 h3,j8 h4,j8 h5,j8 h6,j8 h7,j8 h8]at h;cases h):P:=h
def q8{P:Prop}(h:P:=by
 intro g1 ad ca bz;obtain⟨a,ha,ho⟩:=ca.obj;simp only[go_sem,ca.gen,ho];refine mb (P:=P) aa rfl [10] (by simp only[go_sem]) ca (by simp only[j4,B7]at hl|-;omega) ?_;intro g2 b3 cb A;simp only[go_sem];refine⟨_,ae.refl _,?_⟩;refine dZ hB (by simpa only[l6]using cb) λi _=>al bz A i):P:=h
def ra{P:Prop}(h:P:=by
 rw[A i]at b4;refine⟨b4,rfl,λW an cb c0 ch U=>?_⟩;by_cases hb:W.block=ad.block
 .rw[hb]at U|-
  rw[f1]at U;cases U;exact⟨arr,el,(lo,hi),q,a6⟩
 .rw[heap_setCells_other _ _ _ _ _ hb]at U
  exact⟨cb,c0,ch,U,l0 _⟩):P:=h
def r8{P:Prop}(h:P:=by
 obtain rfl:X=F:=by
  have:¬z e=1:=a6;rw[<-hz];simp[cp,this]
 simp only[go_sem,j5,hn]):P:=h
def sa{P:Prop}(h:P:=by
 refine⟨_,ae.refl _,?_⟩;simp only[go_sem];exact bD.nil (λi hi=>⟨nu,nu⟩) (q:=[iv .i64 2]) ⟨_,_,rfl,.one (.d _),rfl⟩ ⟨rfl,rfl,rfl⟩):P:=h
def sb{P:Prop}(h:P:=by
 have hv:=V.f t;rcases ht with⟨off,ht⟩|⟨sz,off,len,ht⟩
 .rw[ht]at hv
  simp only[ag,aD]at hv;obtain⟨W,U,Y,_⟩:=hv.2.2 trivial (by rw[ho];rfl);rw[H]at U;cases U;exact Y
 .rw[ht]at hv
  simp only[ag]at hv;exact(iH hv rfl (by rw[ho];rfl)).spot ad H):P:=h
def sg{P:Prop}(h:P:=by
 simp only[go_sem,hg,t,E,av,e];refine⟨a6,?_⟩;refine ct rfl (by simp only[go_sem];exact b1 _ _ (U.same (λi hi=>by (try simp only[upd]);repeat (rw[j8 (by omega)]);try rfl) (λi hi=>by (try simp only[upd]);repeat (rw[j8 (by omega)]);try rfl)) F) ?_;exact gD):P:=h
def sn{P:Prop}(h:P:=by
 refine⟨by simp only[go_sem,q4],by simp only[go_sem,q5],by simp only[go_sem],by simp only[go_sem],by simp only[go_sem,e4,e5,l],by simp only[go_sem,e4,e5,l],by simp only[go_sem,b3,q,b7],λi hi b4=>?_⟩;simp only[upd]
 (repeat rw[j8 (by omega)])
 exact⟨rfl,rfl⟩):P:=h
def so{P:Prop}(h:P:=by
 simp only[go_sem,hg,t,E,av,e];refine⟨a6,?_⟩;refine ct rfl (by simp only[go_sem];exact b1 _ _ (U.same (λi hi=>by (try simp only[upd]);repeat (rw[j8 (by omega)]);try rfl) (λi hi=>by (try simp only[upd]);repeat (rw[j8 (by omega)]);try rfl)) T) ?_;exact gD):P:=h
def sr{P:Prop}(h:P:=by
 intro r g1 ad o h;simp only[go_sem];refine⟨_,ae.refl _,?_⟩;simp only[go_sem];exact an.pack o (w.trans (cY.down h a6)) rfl rfl (q:=[]) rfl):P:=h
def sT{P:Prop}(h:P:=by
 refine⟨y,Z,q1,λw' b0=>?_,q3⟩;have q2:=q2 w' b0;simp only[Sem.run_pure,Result.ok.injEq,LB]at q2;subst q2;have hf:(Instr.findKey n (dV k0) []).run P w'=.ok N w':=MapKept.run_findKey hk rfl;simp[Instr.lookup,run_underlying hu,E,hf,b]):P:=h
def s8{P:Prop}(h:P:=by
 refine⟨y,Z,q1,λw' b0=>?_,q3⟩;have q2:=q2 w' b0;rw[g2]at q2;simp only[Sem.run_pure,Result.ok.injEq,LB]at q2;subst q2;simp[Instr.lookup,run_underlying hu,MapKept.run_getObj_map (b0.cells q),E,MapKept.run_findKey hk g1,b]):P:=h
def tb{P:Prop}(h:P:=by
 have:(λi=>(Array.replicate ops.size F).getD i F)=λ_=>F:=by
  funext i;rw[x8,D0];split<;>rfl
 rw[this];exact h0):P:=h
def ti{P:Prop}(h:P:=by
 refine⟨0,rfl,⟨?_,?_,?_,?_,?_,?_,?_⟩,?_⟩<;>(simp only[go_sem,q1,q4,q5,q6,o1,o4,o5,W])
 .rfl
 .exact fr
 .exact⟨M,oM,I,q⟩):P:=h
def tj{P:Prop}(h:P:=by
 refine dU w8 ?_;intro K' b0;simp only[go_sem];refine b0 _ ?_;clear b0 K';simp only[go_sem,u,hw];refine ai (m-1) a6 ⟨k+1,a6,?_⟩;simp only[go_sem,q2,q9,G,o2];refine⟨by rw[xM he],λj hj=>⟨nt ((fr j hj).1),nt ((fr j hj).2)⟩,λj hj=>nt (L j hj)⟩):P:=h
def ts{P:Prop}(h:P:=by exact wpIn_mono (hR av β a ds w hc V A) (λe W w'⟨s',E,a0,bc,h0,U,Y,h3⟩=>⟨s',E,a0,bc,h0,U.imp (J _ _) (λh=>h),Y,h3⟩)):P:=h
def tz{P:Prop}(h:P:=by exact .sl (sz:=sz) (λ_ _=>undef) a8 (λh=>absurd rfl h) (λ_ h=>by cases h) (λ_ _ h=>by cases h) (λ_ _ h=>by cases h)):P:=h
def tI{P:Prop}(h:P:=by
 simp only[upd,x8,M0];by_cases hj:i=j
 .subst hj;simp[bc,b8]
 .have:¬j=i:=λe=>hj e.symm
  simp[hj,this]):P:=h
def u0{P:Prop}(h:P:=by
 have bk:=(hT t (by rw[hd];rfl)).desc;rw[hd]at bk;refine gu h λw=>?_;rw[Sem.run_bind,iR _ _ _ _ _ _ a8 a8];simp only[binOp,Sem.run_bind,Result.andThen_ok,run_equal_bool bk,Sem.run_pure];cases a<;>cases b<;>rfl):P:=h
def u1{P:Prop}(h:P:=by
 obtain rfl:X=F:=by
  have:¬kids=[]:=λe=>c (by rw[e];rfl);rw[<-hz];simp[bI,this]
 simp only[go_sem,j5,c]):P:=h
def u2{P:Prop}(h:P:=by
 exfalso;obtain⟨e,he,ho,b1⟩:=x i hi;obtain⟨B,ad,a1,e3⟩:=x j hj;simp only[dst,ho,a1,I8]at U Y;rcases(O i e hi ho b1).2.1 j B.o hj a6 a1 with h|h
 .rw[h]at Y;cases Y
 .exact h (by rw[U,Y])):P:=h
def u6{P:Prop}(h:P:=by
 refine sx (λi=>p i=T) rfl (λi=>.inl rfl) (λi l hc=>?_);simp only at hc;by_cases h:p i=T
 .rw[l7 h]at hc;cases hc
 .rw[j8 h]at hc
  exact⟨h,l,hc,rfl,λj c c' e1 e2=>.inl (by rw[e1]at e2;exact(E8 e2).symm)⟩):P:=h
def vr{P:Prop}(h:P:=by exact fh b8 ⟨bk.defers,hn _ β _ w rfl bk (a1 _ _ _ _ _ _ _ A (Tr.same (St.put_gen _ _ _) (St.put_obj _ _ _) rfl))⟩):P:=h
def w1{P:Prop}(h:P:=by
 simp only[go_sem,j7,v8];refine aq (λm K=>m=0/\K.f 14=.one (.d (.sl []))/\K.f 15=iv .i64 0/\K.f 16=iv .i64 0) 0 ?_ ?_
 .exact hG
 rintro m f g1 ad ⟨rfl,E,n,A⟩;simp only at E n A;simp only[go_sem,E,n,A]):P:=h
def w5{P:Prop}(h:P:=by
 rw[hq]at hc;simp only[z8,w9]at hc;subst hc;refine⟨_,rfl,?_⟩;simp only[aD];exact cr.of_plain (by have:=bk.plain;rw[x7]at this;exact this x (l5 hq))):P:=h
def xc{P:Prop}(h:P:=by
 refine ai (m-1) a6 ⟨k+1,a6,⟨?_,?_,?_,?_,?_,?_,?_⟩,?_⟩<;>(simp only[go_sem,q1,q4,q5,q6,o1,o4,A,e])
 .rw[hT,kn]
 .exact λi hi=>⟨nt ((fr i hi).1),nt ((fr i hi).2)⟩
 .exact⟨J,rfl,by rw[hT];exact j,l⟩):P:=h
def x2{P:Prop}(h:P:=by
 by_cases u:op=0
 case neg=>
  exact mM
 by_cases i:num=0
 case neg=>
  exact oc
 by_cases P:name=[]
 case neg=>
  obtain rfl:X=F:=by rw[<-hz];simp[bI,ah,P]
  simp only[go_sem,j,u,i,P]
 exact mS):P:=h
def x3{P:Prop}(h:P:=by
 have H:¬(k:Int)<(z l:Int):=a6;rw[y2 a6]at hc;obtain rfl:X=T:=hc.symm;simp only[go_sem,q1,q5,H,j5]):P:=h
def ys{P:Prop}(h:P:=by
 simp only[go_sem,e3.1,e3.2];exact⟨_,ae.refl _,dZ hB (by simpa only[l6,u7,x9]using bf) (qj (al (al bz A) bd))⟩):P:=h
def zs{P:Prop}(h:P:=by
 refine⟨h.1,h0.2.1,λhg ho=>?_⟩;obtain⟨q,J,m⟩:=hl id ho;rw[<-J];exact h.2.2 (by rw[q];exact hg) m):P:=h
def zv{P:Prop}(h:P:=by
 refine ai (m-1) a6 ⟨k+1,a6,⟨?_,?_,?_,?_,?_,?_,?_⟩,?_⟩<;>(simp only[go_sem,q1,q4,q5,q6,o1,o4,A,e])
 .rw[hT,kn]
 .exact λi hi=>⟨(fr i hi).1,nt ((fr i hi).2)⟩
 .exact⟨J,rfl,by rw[hT];exact j,l⟩):P:=h
def Bc{P:Prop}(h:P:=by
 have U:=Src.SW x.word x.body;have Y:=Src.Ob (λx:Src.CFn=>Src.nZ x.body) I;have h3:((au p).funcs.map λx=>Src.nZ x.body).sum=(p.funcs.map λf=>Src.aE f.body).sum:=Src.BN _ _ _;unfold Emit.jD;omega):P:=h
def B2{P:Prop}(h:P:=by
 intro g1 ad p1 q1 r1;simp only[go_sem];refine jb (λi=>decide (K<=i)) ?_;exact⟨rfl,p1.fin J⟩):P:=h
def K0{P:Prop}(h:P:=by
 simp only[l6,u7,x9]at this|-;exact this):P:=h
def K1{P:Prop}(h:P:=by exact⟨bk.defers,v,U,v,r,rfl,Y,ht.size,λb hb=>ht.old b hb,ht.os,h3⟩):P:=h
def K3{P:Prop}(h:P:=by
 have U:i1≠b:=λe=>by simp[E,e]at b1
 have Y:u≠b:=λe=>by simp[E,e]at b2
 simp only[E,j8 U]at b1;simp only[E,j8 Y]at b2;exact V.inj i1 u a1 a2 (n i1 U q) (n u Y J) b1 b2 hb):P:=h
def K4{P:Prop}(h:P:=by exact⟨_,ew (k:=0) (v:=0) (e:=3),rfl⟩):P:=h
def K5{P:Prop}(h:P:=by
 simp only[go_sem]at J|-;exact⟨by simp only[j4,B7];omega,J⟩):P:=h
def K6{P:Prop}(h:P:=by
 refine⟨_,ae.refl _,?_⟩;simp only[go_sem];exact an.pack o (h.down a6) rfl rfl (q:=[]) rfl):P:=h
def Lm{P:Prop}(h:P:=by
 rintro _ rfl;unfold sX ik;simp only[go_sem];exact⟨_,uT,rfl⟩):P:=h
def Lw{P:Prop}(h:P:=by
 subst h hn;exact⟨rfl,⟨iD 0 1 rfl a7 a6 a8 (by rw[hT];congr 1;omega),trivial⟩,λh=>h.1⟩):P:=h
def Mi{P:Prop}(h:P:=by
 rw[s6 (l0 _),hL]at o5 I;simp only[go_sem,e,a,H];refine bh b9 ?_;simp only[go_sem,q4,q5,o4,o5];refine⟨_,ae.refl _,?_⟩;simp only[go_sem];exact⟨rfl,⟨M,oM,I,q⟩,fr⟩):P:=h
def Mo{P:Prop}(h:P:=by
 refine⟨0,rfl,⟨?_,?_,?_,?_,?_,?_,?_⟩,?_⟩<;>(simp only[go_sem])
 .rfl
 .rfl
 .exact λi hi=>⟨nu,nu⟩
 .exact⟨[],rfl,λs=>rfl,λc hc=>by cases hc⟩):P:=h
def R0{P:Prop}(h:P:=by
 refine⟨0,0,rfl,rfl,G9 _,a7,?_⟩;simp only[go_sem,f1,f2,f3,u,p,f4,o1,o2];refine⟨?_,?_,?_⟩
 .rw[s6 a6,vX];rfl
 .rw[s6 a6,lB];rfl
 .rw[s6 a6,lB];rfl):P:=h
def S1{P:Prop}(h:P:=by
 obtain⟨R,hR,J⟩:=h;refine⟨R,λav β a ds w V A c next Q hn I=>?_,J⟩;obtain⟨j,r1,t1⟩:=hv O av β a w V;exact hR av j a ds w r1 (a1 _ _ _ _ _ _ _ A t1) c next Q hn I):P:=h
def S3{P:Prop}(h:P:=by
 refine⟨_,ae.refl _,?_⟩;simp only[go_sem,Q,n2];exact bD.nil (λi hi=>⟨nu,nu⟩) (q:=[.agg ((plD t).map .d)]) ⟨_,_,rfl,Gk (plD t),rfl⟩ ⟨rfl,rfl,rfl⟩):P:=h
def S4{P:Prop}(h:P:=by
 simp only[Oper.upon];have:=hp.2 O av β a s.f w (args.toList.map a.eval) V (jq V _);rw[show (args.toList.map a.eval).toArray=args.map a.eval from H6 a8]at this;exact gI):P:=h
def S5{P:Prop}(h:P:=by
 simp only[St.newC,upd];split
 .rename_i he;subst he;exact P7 (uZ _ _)
 .exact l0 _):P:=h
def S6{P:Prop}(h:P:=by exact wp_mono (hR O av β a w hc V) (λe W w'⟨s',E,U,Y,h3⟩=>⟨s',E,J _ _ U,Y,h3⟩)):P:=h
def T2{P:Prop}(h:P:=by
 obtain⟨j,t⟩:=p;rw[hg]at bo;obtain⟨d,hj,hb⟩:=bo;have hy:=V.yielded hj hb;simp[Region.wanted,hg,hy]):P:=h
def T3{P:Prop}(h:P:=by
 obtain⟨k,t,v⟩:=y;rw[wm];simp only[go_sem];exact⟨_,ew (e:=0),rfl⟩):P:=h
def T4{P:Prop}(h:P:=by
 refine⟨_,ae.refl _,?_⟩;simp only[go_sem];exact bD.use (λi hi h5 h6=>⟨(fr i hi).1,(fr i hi).2 h5 h6⟩) (fr 5 a6).1 (fr 6 a6).1 o5 o6 (q:=[]) rfl):P:=h
def T5{P:Prop}(h:P:=by
 obtain rfl:X=F:=by rw[<-hz];simp[cp,ah,P,eD]
 simp only[go_sem,j5,j,a',p,P]):P:=h
def T6{P:Prop}(h:P:=by
 refine this.mono λe w'⟨v,r,g',Z,E,he,hR,hv,U,Y,h3⟩=>?_;subst he;obtain⟨k1,k2⟩:=ja V c hv U Y h3;exact hn _ E _ w' ⟨r,g',Z,hR,rfl⟩ k1 k2):P:=h
def T7{P:Prop}(h:P:=by
 rcases m e (by simpa using he)with h|h
 .rw[hb]at h;cases h
 .exact h):P:=h
def T8{P:Prop}(h:P:=by
 subst hl;refine(Go.Proofs.Any.strings_Join_none L X _ _ _ w).mono λe w'⟨he,hw⟩=>?_;subst hw;exact fin he rfl (Below.refl _ _)):P:=h
def T9{P:Prop}(h:P:=by
 simp only[ag,aD];exact⟨rfl,hv.2.1,λ_ _=>⟨ad,H,b2,by simp[C7]⟩⟩):P:=h
def Ua{P:Prop}(h:P:=by exact⟨_,⟨_,⟨_,_,rfl,kj .nsl,_,_,rfl,kj _,_,_,rfl,kj _,rfl⟩,rfl⟩,rfl⟩):P:=h
def Ub{P:Prop}(h:P:=by exact h.elim):P:=h
def Uc{P:Prop}(h:P:=by
 obtain rfl:X=F:=by rw[<-hz];simp[bI,ah,P,eD]
 simp only[go_sem,j,u,i,P]):P:=h
def Ud{P:Prop}(h:P:=by
 unfold jT;split
 .rename_i hm
  simp only[y9,A4,E7]at hm;rcases hm with rfl|rfl
  .exact hx
  .exact absurd rfl hi
 .rfl):P:=h
def Ue{P:Prop}(h:P:=by
 intro g1 ad ca bz;have e1:=aW hB bz 3;simp only[go_sem,e1.1,e1.2];exact⟨_,ae.refl _,dZ hB (by simpa only[l6,u7,x9]using ca) (qj bz)⟩):P:=h
def Uf{P:Prop}(h:P:=by exact⟨y,Z,U,λw' b0=>by simp[execOp,Y w' b0],h3⟩):P:=h
def Ug{P:Prop}(h:P:=by
 rcases this with((h|h)|h)|h
 .exact .inl h
 .exact .inr (.inl h)
 .exact .inr (.inr h)
 .rw[H8.2 A]at h;cases h):P:=h
def Uh{P:Prop}(h:P:=by
 simp only[go_sem];exact J):P:=h
def Ui{P:Prop}(h:P:=by refine⟨⟨by rw[setCells_size];exact hb.1,hb.2.1,λi W b4=>hb.2.2 i W (by rw[<-A i];exact b4)⟩,heap_setCells_other _ _ _ _ _ bl⟩):P:=h
def Uj{P:Prop}(h:P:=by exact kX hT rest hp g h (λs2 bl a2 w2 k1 k2 k3=>hQ _ _ _ _ k1 k2 (Tr.trans (Tr.same (by rw[St.put_gen]) (by rw[St.put_obj]) rfl) k3))):P:=h
def Uk{P:Prop}(h:P:=by
 simp only[go_sem,e1,e2,bd,hl];refine bT rfl (by simp only[go_sem];exact h3 F) ?_;rintro _ rfl;simp only[go_sem,hl]):P:=h
def Ul{P:Prop}(h:P:=by
 simp only[l4,ah,↓reduceIte]at d;refine⟨bl0,gf d.1.2 (cw a7),bl0,aY a7,(dy _ _ _).2 ⟨okJ J (cw a7),bl0,aY a7,trivial⟩⟩):P:=h
def Um{P:Prop}(h:P:=by simpa using this):P:=h
def Un{P:Prop}(h:P:=by simp only[go_sem,q1,o1]):P:=h
def Uo{P:Prop}(h:P:=by
 simp only[go_sem,e1,e2,bd,hl];refine bT rfl (by simp only[go_sem];exact h3 T) ?_;rintro _ rfl;simp only[go_sem,hl]):P:=h
def Up{P:Prop}(h:P:=by exact gO hT c rest L g hp.2 h (λs2 a2 k1 k2 k3=>hQ _ _ k1 k2 (Tr.trans (Tr.same (by rw[St.put_gen]) (by rw[St.put_obj]) rfl) k3))):P:=h
def Uq{P:Prop}(h:P:=by exact iJ hT c rest L g hp.2 h (λs2 a2 k1 k2 k3=>hQ _ _ k1 k2 (Tr.trans (Tr.same (by rw[St.put_gen]) (by rw[St.put_obj]) rfl) k3))):P:=h
def Ur{P:Prop}(h:P:=by
 subst he;obtain⟨k1,k2⟩:=ja V c hv U Y h3;exact⟨k1.defers,hn _ E _ w' ⟨r,g',Z,hR,rfl⟩ k1 (a1 _ _ _ _ _ _ _ A k2)⟩):P:=h
def Ut{P:Prop}(h:P:=by
 obtain rfl:X=0:=by rw[<-hz,hw];simp
 exact hG):P:=h
def Uu{P:Prop}(h:P:=by
 refine⟨0,rfl,?_⟩;simp only[St.grab];simp only[go_sem];exact⟨rfl,λj hj=>⟨nu,nu⟩,λj hj=>nt (hB j a6)⟩):P:=h
def Uv{P:Prop}(h:P:=by
 simp only[go_sem,n8,n9,q1,q2,q3,q7,c];exact h2):P:=h
def Uw{P:Prop}(h:P:=by
 have:=pI b4 b' j e2.o cz (λB ad cm=>b' j _ q cz B ad cm) i h;rw[hL]at this;exact absurd this.1 a8):P:=h
def Ux{P:Prop}(h:P:=by
 refine⟨0,rfl,by rw[B1];exact hz,?_⟩;simp only[go_sem];exact⟨λj hj=>⟨nu,nu⟩,λj hj=>nt (hf j a6)⟩):P:=h
def Uy{P:Prop}(h:P:=by
 rw[wo];simp only[go_sem];exact⟨_,ew (k:=0) (v:=0),rfl⟩):P:=h
def Uz{P:Prop}(h:P:=by
 simp only[l4]at this;have Y:=this.1.1;simp only at ch;rw[<-ch,eD]at Y;cases Y):P:=h
def UA{P:Prop}(h:P:=by
 simp only[go_sem]at J|-;exact⟨a6,J⟩):P:=h
def UB{P:Prop}(h:P:=by
 simp only[go_sem,n8,n9,q1,q2,q6,q7];exact h2):P:=h
def UC{P:Prop}(h:P:=by exact gk h (λw=>by simp[Builtin.len_,run_underlying hu,goInt])):P:=h
def UD{P:Prop}(h:P:=by
 rw[e1];exact⟨a6,⟨a7,a6⟩,J⟩):P:=h
def UE{P:Prop}(h:P:=by obtain⟨_,_,_,_,_,h⟩:=bd;rcases h with⟨h,_⟩|⟨h,_⟩|⟨h,_⟩|⟨h,_⟩|⟨h,_⟩|⟨h,_⟩|⟨_,h⟩<;>omega):P:=h
def UF{P:Prop}(h:P:=by
 have:=x7.1 b4 ops[i] (G5 b8);rw[hd]at this;exact Um):P:=h
def UG{P:Prop}(h:P:=by
 have H:¬(k:Int)<(z l:Int):=a6;rw[y2 a6]at hc;obtain rfl:X=T:=hc.symm;simp only[go_sem,q0,q5,H,j5]):P:=h
def UH{P:Prop}(h:P:=by
 rw[l7 hw]at h;rw[l7 (by simp[Region.wanted,hg,hy,hw])];exact u bk (Tr.same rfl rfl rfl) h):P:=h
def UI{P:Prop}(h:P:=by
 obtain⟨k,rfl⟩:∃k,op=k+1:=⟨op-1,a6⟩
 have:z names<=k:=by show 27<=k;omega
 simp[nameOf,this]):P:=h
def UJ{P:Prop}(h:P:=by
 refine⟨0,a,b,rfl,by rw[B1];exact bk,by rw[B1];exact bl,?_⟩;simp only[go_sem,hn,hu];exact λj hj=>hB j a6):P:=h
def UK{P:Prop}(h:P:=by exact⟨by simp[Am.upd,Q,hg],cm,⟨a,ha,by simp[Am.upd,Q,n2,ho]⟩,by simp[Am.upd,n2,b5],by simp[Am.upd,n2,hi],bl⟩):P:=h
def UL{P:Prop}(h:P:=by
 rw[H]at A;obtain⟨rfl,rfl⟩:=A;have:es=[]:=r0 hlen;subst this;exact .sl0):P:=h
def UM{P:Prop}(h:P:=by
 obtain⟨n,hn⟩:∃n,Op.maxDepth=n+1:=⟨_,rfl⟩
 unfold Op.equal;rw[hn,Op.equalIn];simp[run_underlying hu]):P:=h
def UN{P:Prop}(h:P:=by
 obtain rfl:X=F:=by
  have:¬z kids=1:=a6;rw[<-hz];simp[bI,this]
 simp only[go_sem,j5,c]):P:=h
def U0{P:Prop}(h:P:=by
 obtain rfl:X=F:=by rw[<-hz];simp[bI,ah,bd]
 exact hG):P:=h
def U1{P:Prop}(h:P:=by
 obtain rfl:X=F:=by rw[<-hz];simp[cp,ah,bd]
 exact hG):P:=h
def U2{P:Prop}(h:P:=by exact iG hT rest L g hp.2 h (λs2 a2 k1 k2 k3 k4=>hQ _ _ k1 k2 (by rw[k3,St.put_gen]) (by rw[k4,St.put_obj]))):P:=h
def U3{P:Prop}(h:P:=by
 rw[hg]at h;simp only at h;rw[l7 (by simp[Region.wanted,hg])];exact u V Tr.refl h):P:=h
def U4{P:Prop}(h:P:=by
 refine⟨0,rfl,a8,?_⟩;exact hG):P:=h
def U5{P:Prop}(h:P:=by
 obtain⟨cells,hc⟩:=J5.1 hi;have:=V.obj i cells hc;rw[an]at this;exact this.block.2):P:=h
def U6{P:Prop}(h:P:=by
 simp only[go_sem,e2.1,e2.2];exact⟨_,ae.refl _,dZ hB (by simpa only[l6,u7,x9]using cb) (qj (al bz A))⟩):P:=h
def U7{P:Prop}(h:P:=by
 unfold inW;cases b
 .exact hG
 .simp only[go_sem]
  exact⟨λh=>by simp[h],λh=>by simp[h]⟩):P:=h
def U8{P:Prop}(h:P:=by
 by_cases p:i=b
 .simp[E,p]at H
 .simp only[E,j8 p]at H
  exact I.2.2 i W (n i p hi) H):P:=h
def U9{P:Prop}(h:P:=by
 have b8:z args<=i:=by simpa using I
 exact hH):P:=h
def VH{P:Prop}(h:P:=by
 rw[hq]at hc;simp only[z8,w9]at hc;subst hc;exact e3 j x hq):P:=h
def VJ{P:Prop}(h:P:=by
 intro g3 cf bf bd;have e3:=x6 ((aW hB bd 3).1.trans e2.1) ((aW hB bd 3).2.trans e2.2);exact ys):P:=h
def VN{P:Prop}(h:P:=by
 subst h hn;exact⟨rfl,⟨iD 1 1 rfl a7 a6 a8 (by rw[hT];congr 1;omega),trivial⟩,λh=>h.1⟩):P:=h
def VS{P:Prop}(h:P:=by
 obtain⟨u,hu,f⟩:=bo _ _ (hc m x I);exact⟨u,by rw[eJ q,C7];exact hu,ih m x I f⟩):P:=h
def VT{P:Prop}(h:P:=by
 have b8:z xs<=i:=by simpa using I
 exact hH):P:=h
def VU{P:Prop}(h:P:=by exact⟨_,_,rfl,.inl rfl⟩):P:=h
def VV{P:Prop}(h:P:=by
 have U:i≠G:=λe=>hn (by simp[e]);have Y:i≠D:=λe=>hn (by simp[e]);exact⟨nu,nu⟩):P:=h
def VW{P:Prop}(h:P:=by
 rw[x8,A5 a6]at y;rw[A5 a6];simpa using y):P:=h
def VX{P:Prop}(h:P:=by simp only[go_sem,q0]):P:=h
def VY{P:Prop}(h:P:=by
 simp only[l9,y9,TW]at hv;simp only[maskm,upd];rw[j8 hv.1];exact ih hv.2):P:=h
def VZ{P:Prop}(h:P:=by
 have h3:¬fnD.name = "runtime.NumGoroutine":=by simpa using o
 simp[invoke,callFunc,hf,hb,h3]):P:=h
def V0{P:Prop}(h:P:=by
 rintro _ rfl;simp only[go_sem,q7,hw];refine bM af ⟨_,hc,a6,?_⟩;simp only[go_sem,q0,q2]):P:=h
def V1{P:Prop}(h:P:=by
 simp only[l4,s7]at d;rw[r0 d.2];simp[aH,tks]):P:=h
def V2{P:Prop}(h:P:=by
 simp only[go_sem]at J|-;refine cK rfl (by simp only[go_sem];exact hF) ?_;exact oC):P:=h
def V3{P:Prop}(h:P:=by exact⟨X,Z,U,λw' b0=>by rw[Sem.run_bind,iR _ _ _ _ _ _ a8 a8];simpa using Y w' b0,h3⟩):P:=h
def V4{P:Prop}(h:P:=by exact⟨s',E,a0,bc,rfl,.inr ⟨ch,rfl,U⟩,Y,h3⟩):P:=h
def V5{P:Prop}(h:P:=by
 rintro m f g1 ad ⟨k,hk,a,q0,q9,G,u,fr,L⟩;simp only at q0 q9 G u fr L;exact nm):P:=h
def V6{P:Prop}(h:P:=by simp only[upd];rw[l7 trivial];simp only[bG.cells,bG.at,hQ.s,hQ.ds,hQ.bk,hQ.b,hQ.e,hQ.p,ksD]):P:=h
def V7{P:Prop}(h:P:=by
 rw[e1];exact⟨l0 _,λe he=>by obtain⟨x,_,rfl⟩:=G3.1 he;rfl,⟨a7,a6⟩,J⟩):P:=h
def V8{P:Prop}(h:P:=by exact fh (by simp[execOp,Y]) (hn _ _ _ _ U h3 h4)):P:=h
def V9{P:Prop}(h:P:=by
 refine⟨0,rfl,by rw[B1];exact hz,?_⟩;simp only[go_sem];exact λj hj=>hf j a6):P:=h
def Wa{P:Prop}(h:P:=by
 by_cases h:l=[]
 .exact .inl h
 .exact .inr ⟨l.dropLast,l.getLast h,(M1 h).symm⟩):P:=h
def Wb{P:Prop}(h:P:=by
 rw[hq]at hs;cases hs;have:=I hq;simp only at this;omega):P:=h
def Wc{P:Prop}(h:P:=by
 intro g1 ad ca bz;have e1:=aW hB bz 4;simp only[go_sem,e1.1,e1.2];exact j1):P:=h
def Wd{P:Prop}(h:P:=by
 rw[l7 h];have hi:¬(e:Int)=0:=a6;simp only[go_sem,hi];exact⟨_,pk,rfl⟩):P:=h
def We{P:Prop}(h:P:=by cases a.testBit i<;>cases b.testBit i<;>rfl):P:=h
def Wf{P:Prop}(h:P:=by
 rintro ch g' Z ⟨rfl,m,hp,hc,rfl⟩;exact E.rdr.pan (by simp[upd]) (u m hp) hc):P:=h
def Wg{P:Prop}(h:P:=by simp only[go_sem,Q,n2]):P:=h
def Wh{P:Prop}(h:P:=by simp only[go_sem]):P:=h
def Wi{P:Prop}(h:P:=by simp only[go_sem,Q,n2];all_goals rfl):P:=h
def Wj{P:Prop}(h:P:=by (try simp only[j4,j6,j7]);omega):P:=h
def Wk{P:Prop}(h:P:=by simp;omega):P:=h
def Wl{P:Prop}(h:P:=by simp only[upd];rw[l7 trivial]):P:=h
def Wm{P:Prop}(h:P:=by first|(simp[upd];done)|(simp only[upd];exact nt (hn))):P:=h
def Wo{P:Prop}(h:P:=by first|(simp[upd];done)|(simp only[upd];exact nt (hu))):P:=h
def Wp{P:Prop}(h:P:=by simp only[go_sem,Q,n2,cF]):P:=h
def Wq{P:Prop}(h:P:=by simp[upd]):P:=h
def Ws{P:Prop}(h:P:=by simp only[go_sem,Q,n2,ho]):P:=h
def Wt{P:Prop}(h:P:=by simp only[go_sem];rfl):P:=h
def WD{P:Prop}(h:P:=by simp only[go_sem,Q,n2,hg,q0];all_goals rfl):P:=h
def WE{P:Prop}(h:P:=by first|rfl|simp only[go_sem,A,bQ]):P:=h
def WG{P:Prop}(h:P:=by first|exact hl|((try simp only[aw,ao,ax,Emit.lR,Emit.nk,j4,j6,j7]);omega)):P:=h
def WH{P:Prop}(h:P:=by first|exact hh|((try simp only[aw,ao,ax,Emit.lR,Emit.nk,j4,j6,j7,s5]);omega)):P:=h
def WI{P:Prop}(h:P:=by simp only[go_sem,Q,n2,I]):P:=h
def WJ{P:Prop}(h:P:=by simp only[go_sem];exact cV ho name F):P:=h
def WK{P:Prop}(h:P:=by first|rfl|simp only[go_sem,c,e,bQ]):P:=h
def WL{P:Prop}(h:P:=by first|exact hl|((try simp only[aw,ao,ax,Emit.lR,Emit.nk,j4,j6,j7]);omega)):P:=h
def WM{P:Prop}(h:P:=by first|exact hh|((try simp only[aw,ao,ax,Emit.lR,Emit.nk,j4,j6,j7,s5]);omega)):P:=h
def WN{P:Prop}(h:P:=by simp only[go_sem,Q,n2,hg];all_goals rfl):P:=h
def WO{P:Prop}(h:P:=by simp only[go_sem];exact hT):P:=h
def WQ{P:Prop}(h:P:=by simp only[go_sem];exact hL):P:=h
def WR{P:Prop}(h:P:=by first|omega|(simp only;omega)):P:=h
def WS{P:Prop}(h:P:=by simp[ho]):P:=h
def WT{P:Prop}(h:P:=by simp[Region.wanted,hg,hy,hw]):P:=h
def WU{P:Prop}(h:P:=by rw[aV h];decide):P:=h
def WV{P:Prop}(h:P:=by simp only[go_sem];exact cV ho name T):P:=h
def WW{P:Prop}(h:P:=by simp only[St.claimAt];simp only[go_sem]):P:=h
def WX{P:Prop}(h:P:=by first|rfl|simp only[go_sem]):P:=h
def WY{P:Prop}(h:P:=by simp only[bJ,j4,j5,j6,j7];omega):P:=h
def WZ{P:Prop}(h:P:=by simp only[go_sem,Q,n2,hg,q0]):P:=h
def W0{P:Prop}(h:P:=by simp only[ao,j4,j6,j7];omega):P:=h
def W2{P:Prop}(h:P:=by rw[m];simp only[j6,j7];omega):P:=h
def W3{P:Prop}(h:P:=by rw[aV h];rfl):P:=h
def W4{P:Prop}(h:P:=by simp only[go_sem];exact ju name):P:=h
def W5{P:Prop}(h:P:=by simp only[ao,s5,j7];omega):P:=h
def W6{P:Prop}(h:P:=by rw[hd];rfl):P:=h
def W7{P:Prop}(h:P:=by simp only[szE,aH];omega):P:=h
def W8{P:Prop}(h:P:=by simpa using hl):P:=h
def W9{P:Prop}(h:P:=by first|exact d.2.2.2|(simp[d.2.2.2])):P:=h
def Xa{P:Prop}(h:P:=by first|exact d.2.2.1|(simp[d.2.2.1])):P:=h
def Xb{P:Prop}(h:P:=by simp only[go_sem];rw[<-b8]):P:=h
def Xc{P:Prop}(h:P:=by simp only[go_sem];exact hN):P:=h
def Xd{P:Prop}(h:P:=by simp only[St.claimAt];simp only[go_sem,Q,n2]):P:=h
def Xe{P:Prop}(h:P:=by simp only[aH]at hn;omega):P:=h
def Xf{P:Prop}(h:P:=by have:=kO hs;omega):P:=h
def Xg{P:Prop}(h:P:=by simp[hb]):P:=h
def Xh{P:Prop}(h:P:=by subst e;rw[u51]at hu;cases hu):P:=h
def Xi{P:Prop}(h:P:=by subst e;rw[u49]at hu;cases hu):P:=h
def Xj{P:Prop}(h:P:=by subst e;rw[u54]at hu;cases hu):P:=h
def Xk{P:Prop}(h:P:=by subst e;rw[u52]at hu;cases hu):P:=h
def Xl{P:Prop}(h:P:=by simpa using I):P:=h
def Xm{P:Prop}(h:P:=by simpa using h):P:=h
def Xn{P:Prop}(h:P:=by simp only[go_sem];exact hB):P:=h
def Xo{P:Prop}(h:P:=by simp[Region.wanted,hg,hy]):P:=h
def Xp{P:Prop}(h:P:=by first|rfl|simp only[go_sem,m,p,bQ]):P:=h
def Xq{P:Prop}(h:P:=by first|exact hl|((try simp only[aw,ao,ax,Emit.lR,Emit.nk,j4,j6,j7]);omega)):P:=h
def Xr{P:Prop}(h:P:=by first|exact hh|((try simp only[aw,ao,ax,Emit.lR,Emit.nk,j4,j6,j7,s5]);omega)):P:=h
def Xs{P:Prop}(h:P:=by simp[I]):P:=h
def Xt{P:Prop}(h:P:=by simp only[go_sem,uF];rfl):P:=h
def Xu{P:Prop}(h:P:=by simp[Tryz.ntmps73]):P:=h
def Xv{P:Prop}(h:P:=by simpa using hi):P:=h
def Xw{P:Prop}(h:P:=by simp only[go_sem];exact cC rfl):P:=h
def Xx{P:Prop}(h:P:=by obtain⟨b,rfl,e1,e2⟩:=h6;exact sy bc e1 e2):P:=h
def Xy{P:Prop}(h:P:=by simp only[go_sem,cc];exact J):P:=h
def Xz{P:Prop}(h:P:=by simp only[go_sem,q6]):P:=h
def XT{P:Prop}(h:P:=by simp only[go_sem,q0]):P:=h
def XU{P:Prop}(h:P:=by rw[I];exact hf B P W s.gen s.obj hB L h hl):P:=h
def XV{P:Prop}(h:P:=by simp only[go_sem];exact eo _ _ (e1 _) (by simp only[upd];(repeat rw[j8 o.2]);exact O)):P:=h
def XW{P:Prop}(h:P:=by simp only[go_sem];exact hS):P:=h
def XX{P:Prop}(h:P:=by simp only[go_sem];exact zj):P:=h
def XY{P:Prop}(h:P:=by simp only[go_sem];exact zk):P:=h
def XZ{P:Prop}(h:P:=by simp only[go_sem];exact hW):P:=h
def X1{P:Prop}(h:P:=by simp only[szS,aE,aH];omega):P:=h
def X2{P:Prop}(h:P:=by simp[aX,ho]):P:=h
def X6{P:Prop}(h:P:=by simp only[go_sem,Q,n2,pQ]):P:=h
def X7{P:Prop}(h:P:=by simp only[go_sem];exact y):P:=h
def X8{P:Prop}(h:P:=by simp only[go_sem];exact W):P:=h
def X9{P:Prop}(h:P:=by simp only[go_sem];rw[<-b8];exact Di _):P:=h
def Ya{P:Prop}(h:P:=by have:=ph hs;omega):P:=h
def Yb{P:Prop}(h:P:=by unfold cF;clear ho hn;induction l with|nil=>rfl|cons a l ih=>simpa using ih):P:=h
def Yc{P:Prop}(h:P:=by simp only[szS,aE];omega):P:=h
def Yd{P:Prop}(h:P:=by rw[h.len];decide):P:=h
def Ye{P:Prop}(h:P:=by rw[aV U];rfl):P:=h
def Yf{P:Prop}(h:P:=by first|rfl|simp only[go_sem,s,t,bQ]):P:=h
def Yg{P:Prop}(h:P:=by first|exact hl|((try simp only[aw,ao,ax,Emit.lR,Emit.nk,j4,j6,j7]);omega)):P:=h
def Yh{P:Prop}(h:P:=by first|exact hh|((try simp only[aw,ao,ax,Emit.lR,Emit.nk,j4,j6,j7,s5]);omega)):P:=h
def Yi{P:Prop}(h:P:=by omega):P:=h
def Yj{P:Prop}(h:P:=by simp[e]):P:=h
def Yk{P:Prop}(h:P:=by simp[hc]):P:=h
def Yl{P:Prop}(h:P:=by simp only[aw,ao,l6]):P:=h
def Ym{P:Prop}(h:P:=by simp only[go_sem,b]):P:=h
def Yn{P:Prop}(h:P:=by simp[bO]):P:=h
def Yo{P:Prop}(h:P:=by simp at ha;simp[ha]):P:=h
def Yp{P:Prop}(h:P:=by rw[ho];rfl):P:=h
def Yq{P:Prop}(h:P:=by simpa only[l6,u7,x9]using b6):P:=h
def Yt{P:Prop}(h:P:=by simp[pack,exV,exD]):P:=h
def Yu{P:Prop}(h:P:=by rw[o];simp only[bU,j5];omega):P:=h
def Yv{P:Prop}(h:P:=by rw[I];exact hw c G D H u code holes s.gen s.obj an hg hl a):P:=h
def Yw{P:Prop}(h:P:=by simp only[go_sem];exact hF):P:=h
def Yx{P:Prop}(h:P:=by simp only[go_sem];exact hR):P:=h
def Yy{P:Prop}(h:P:=by simp only[go_sem];exact hE):P:=h
def Yz{P:Prop}(h:P:=by simp only[go_sem];exact hP):P:=h
def YA{P:Prop}(h:P:=by simp only[ao,j6,j7];omega):P:=h
def YB{P:Prop}(h:P:=by simp only[aw,ao,ax,Emit.lR,Emit.nk,j4,j6,j7,l6,s5,x9]):P:=h
def YC{P:Prop}(h:P:=by cases ho):P:=h
def YD{P:Prop}(h:P:=by have:=count_set bd;omega):P:=h
def YE{P:Prop}(h:P:=by rw[B6];exact hu):P:=h
def YF{P:Prop}(h:P:=by simp[pack,smV,smD,cT,aA]):P:=h
def YG{P:Prop}(h:P:=by rw[aV U];decide):P:=h
set_option maxHeartbeats 64000000
set_option maxRecDepth 100000
end
end Go
namespace Go.Am
section
def ite_cc{e:Sort _}{b c:Prop}[Decidable b][Decidable c]{x y:e}(h:b=c):ite b x y=ite c x y:=by subst h;congr
attribute [go_sem] reduceIte
end
section
attribute[local congr]ite_cc
section
inductive D where
 |bool (b:Bool)
 |int (k:IntKind) (n:Int)
 |str (s:List UInt8)
 |sl (es:List (List D))
 |nsl
 |nilp
 |nilf
 |nili
 |nilm
 |fn (f:FuncId)
 |iptr (cs:List D)
 |yld (l:Nat)
 deriving Inhabited
inductive PC where
 |d (x:D)
 |ptr (id g off:Nat)
 deriving Inhabited
inductive C where
 |d (x:D)
 |osl (id g sz off len:Nat)
 |ptr (id g off:Nat)
 |clo (f:FuncId) (bf:List PC)
 |mp (id g kd:Nat)
 |lsl (n:Nat)
 |raw (o:Obj)
 deriving Inhabited
inductive AV where
 |one (c:C)
 |agg (cs:List C)
 |tup (vs:List AV)
 |junk
 |exact(v:Value)
 deriving Inhabited
structure St where
 f:Nat->AV
 gen:Nat->Nat
 obj:Nat->Option (List C)
inductive Box {α:Type} (a:α):Type where
 |mk
@[reducible]def bx{e:Type}(a:e):Box a:=.mk
def upd{e:Type}(f:Nat->e)(i:Nat)(v:e):Nat->e:=λj=>if j=i then v else f j
structure TI where
 desc:TypeDesc
 size:Nat
 bytes:Nat
 zero:List D
 deriving Inhabited
abbrev iv(k:IntKind)(n:Int):AV:=.one (.d (.int k n))
abbrev bv(b:Bool):AV:=.one (.d (.bool b))
abbrev sv(s:List UInt8):AV:=.one (.d (.str s))
abbrev uv:AV:=.tup []
def Yr:Value->C
 |.bool b=>.d (.bool b)
 |.int k n=>.d (.int k n)
 |.string s=>.d (.str s.data.toList)
 |.slice N 0 0=>.d .nsl
 |.pointer N=>.d .nilp
 |.nilFunc=>.d .nilf
 |.nilIface=>.d .nili
 |.map N=>.d .nilm
 |_=>.osl 0 0 0 0 0
def yp:Value->AV
 |.bool b=>.one (.d (.bool b))
 |.int k n=>.one (.d (.int k n))
 |.string s=>.one (.d (.str s.data.toList))
 |.slice N 0 0=>.one (.d .nsl)
 |.pointer N=>.one (.d .nilp)
 |.nilFunc=>.one (.d .nilf)
 |.nilIface=>.one (.d .nili)
 |.map N=>.one (.d .nilm)
 |_=>.junk
def St.ev(s:St):Operand->AV
 |.tmp t=>s.f t
 |.const v=>yp v
 |.global _=>.junk
 |.func f=>.one (.d (.fn f))
def St.put(s:St)(dst:Option Nat)(v:AV):St:=
 match dst with
 |none=>s
 |some d=>{s with f:=upd s.f d v}
def nxC(c g:Nat):Nat:=1000000*(g+1)+(if c<1000000 then c else 0)
def code(g:Nat):Nat:=g%1000000
def uZ(c g:Nat):g<nxC c g:=by unfold nxC;omega
def yq(c g:Nat):nxC c g≠g:=Nat.ne_of_gt (uZ c g)
def lh(c g:Nat):code (nxC c g)=if c<1000000 then c else 0:=by
 unfold code nxC;rw[Nat.mul_add_mod];split
 .rename_i h;exact L2 h
 .rfl
def xn{c:Nat}(g:Nat)(h:c<1000000):code (nxC c g)=c:=by rw[lh,l7 h]
def apC(e g off:Nat):Nat:=if code g=e+1/\off=0 then e+1 else 0
def St.newC(c:Nat)(s:St)(d:Nat)(cs:List C):St:={s with gen:=upd s.gen d (nxC c (s.gen d)),obj:=upd s.obj d (S cs)}
def ez:TypeDesc->Bool
 |.struct _|.array _ _=>T
 |_=>F
def cellsOf:AV->Option (List C)
 |.one c=>S [c]
 |.agg cs=>S cs
 |_=>N
def setAt(cells:List C)(off:Nat):List C->List C
 |[]=>cells
 |c::cs=>setAt (cells.set off c) (off+1) cs
def tO(b:UInt8):D:=.int .u8 b.toNat
def kA(b:Bool){K:Bool->Prop}(_:Box K):Prop:=(b=T->K T)/\(b=F->K F)
def bR{e:Type}(x:Option e){K:e->Prop}(_:Box K):Prop:=
 match x with
 |some a=>K a
 |none=>False
def qw(v:AV){K:Bool->Prop}(k:Box K):Prop:=
 match v with
 |.one (.d (.bool b))=>kA b k
 |_=>False
def mV(v:AV){K:Bool->Prop}(k:Box K){U:Prop}(_:Box U):Prop:=
 match v with
 |.one (.d (.bool b))=>kA b k
 |.tup []=>U
 |_=>False
def zR(A:TI)(cells:List C)(off:Nat){K:AV->Prop}(_:Box K):Prop:=
 match ez A.desc with
 |true=>off+A.size<=z cells/\K (.agg ((cells.drop off).take A.size))
 |false=>bR (cells[off]?) (bx λc=>K (.one c))
def Hi(A:TI)(cs:List D){K:AV->Prop}(_:Box K):Prop:=
 match ez A.desc with
 |true=>A.size<=z cs/\K (.agg ((cs.take A.size).map .d))
 |false=>bR (cs[0]?) (bx λc=>K (.one (.d c)))
def okD:TypeDesc->Bool
 |.invalid=>F
 |_=>T
def va(A:TI)(s:St)(a:AV){K:AV->Prop}(k:Box K):Prop:=
 match a with
 |.one (.ptr id g off)=>okD A.desc=T/\s.gen id=g/\bR (s.obj id) (bx λe=>zR A e off k)
 |.one (.d (.iptr cs))=>okD A.desc=T/\Hi A cs k
 |_=>False
def qx(A:TI)(s:St)(a x:AV){K:St->Prop}(_:Box K):Prop:=
 match a with
 | .one (.ptr id g off)=>okD A.desc=T/\s.gen id=g/\bR (cellsOf x) (bx λh=>z h=A.size/\bR (s.obj id) (bx λe=>off+z h<=z e/\
     K {s with obj:=upd s.obj id (S (setAt e off h))}))
 |_=>False
def iU(s:St)(sz:Nat)(x L:AV){K:AV->Prop}(_:Box K):Prop:=
 match L with
 |.one (.d (.int _ i))=>
   match x with
   |.one (.d (.sl es))=>0<=i/\bR (es[i.toNat]?) (bx λc=>z c=sz/\K (.one (.d (.iptr c))))
   |.one (.osl id g f off len)=>s.gen id=g/\(s.obj id).isSome=T/\0<=i/\i<len/\f=sz/\K (.one (.ptr id g (off+i.toNat*sz)))
   |_=>False
 |_=>False
def mu(G:Nat->TI)(d:TypeDesc)(s:St)(x L:AV){K:AV->Prop}(_:Box K):Prop:=
 match d with
 |.array n e=>
   match L with
   |.one (.d (.int _ i))=>
     match x with
     |.one (.ptr id g off)=>s.gen id=g/\(s.obj id).isSome=T/\okD (G e).desc=T/\0<=i/\i<n/\K (.one (.ptr id g (off+i.toNat*(G e).size)))
     |_=>False
   |_=>False
 |_=>False
def og(d:TypeDesc):Bool:=match d with|.array _ _=>T|_=>F
def vb(x L:AV){K:AV->Prop}(_:Box K):Prop:=
 match L with
 |.one (.d (.int _ i))=>
   match x with
   |.one (.d (.str s))=>0<=i/\bR (s[i.toNat]?) (bx λc=>K (iv .u8 c.toNat))
   |_=>False
 |_=>False
def nV(op:BinOp)(k:IntKind)(x y:Int){K:AV->Prop}(_:Box K):Prop:=
 match op with
 |.add=>K (iv k (k.wrap (x+y)))
 |.sub=>K (iv k (k.wrap (x-y)))
 |.mul=>K (iv k (k.wrap (x*y)))
 |.quo=>y≠0/\K (iv k (k.wrap (x.tdiv y)))
 |.rem=>y≠0/\K (iv k (x.tmod y))
 |.eql=>K (bv (decide (x=y)))
 |.neq=>K (bv (decide (x≠y)))
 |.lss=>K (bv (decide (x<y)))
 |.leq=>K (bv (decide (x<=y)))
 |.gtr=>K (bv (decide (y<x)))
 |.geq=>K (bv (decide (y<=x)))
 |.and=>K (iv k (k.wrap (BitVec.ofInt k.bits x &&&BitVec.ofInt k.bits y).toNat))
 |.or=>K (iv k (k.wrap (BitVec.ofInt k.bits x |||BitVec.ofInt k.bits y).toNat))
 |.xor=>K (iv k (k.wrap (BitVec.ofInt k.bits x ^^^ BitVec.ofInt k.bits y).toNat))
 |.andNot=>K (iv k (k.wrap (BitVec.ofInt k.bits x &&& ~~~ BitVec.ofInt k.bits y).toNat))
 |.shl=>0<=y/\K (iv k (k.wrap (x*2^(min y.toNat k.bits))))
 |.shr=>0<=y/\K (iv k (x.fdiv (2^(min y.toNat k.bits))))
def FE(op:BinOp)(x y:List UInt8){K:AV->Prop}(_:Box K):Prop:=
 match op with
 |.add=>((z x+z y:Nat):Int)<=9223372036854775807/\K (sv (x++y))
 |.eql=>K (bv (decide (x=y)))
 |.neq=>K (bv (decide (x≠y)))
 |.lss=>K (bv (Op.bytesLess x y))
 |.leq=>K (bv (Op.bytesLess x y||decide (x=y)))
 |.gtr=>K (bv (!(Op.bytesLess x y||decide (x=y))))
 |.geq=>K (bv (!Op.bytesLess x y))
 |_=>False
def sameKind(op:BinOp)(k E:IntKind):Prop:=
 match op with
 |.shl|.shr=>True
 |_=>k=E
def Px(d:TypeDesc)(op:BinOp)(x y:Bool){K:AV->Prop}(_:Box K):Prop:=
 match d,op with
 |.bool,.eql=>K (bv (decide (x=y)))
 |.bool,.neq=>K (bv (decide (x≠y)))
 |_,_=>False
def xo(k:IntKind):List C->Option (List Int)
 |[]=>S []
 |.d (.int E n)::r=>if E=k then(xo k r).map (n :: ·)else N
 |_=>N
def Lh(A:TI)(n:Nat)(xs Q:List C){K:Bool->Prop}(_:Box K):Prop:=
 match A.desc with
 |.int k=>A.size=1/\bR (xo k xs) (bx λa=>bR (xo k Q) (bx λb=>(z a=n/\z b=n)/\K (decide (a=b))))
 |_=>False
def SY(G:Nat->TI)(d:TypeDesc)(op:BinOp)(xs Q:List C){K:AV->Prop}(_:Box K):Prop:=
 match d,op with
 |.array n e,.eql=>Lh (G e) n xs Q (bx λb=>K (bv b))
 |.array n e,.neq=>Lh (G e) n xs Q (bx λb=>K (bv (!b)))
 |_,_=>False
def Cx(G:Nat->TI)(d:TypeDesc)(op:BinOp)(x y:AV){K:AV->Prop}(k:Box K):Prop:=
 match x,y with
 |.one (.d (.int e a)),.one (.d (.int h b))=>sameKind op e h/\nV op e a b k
 |.one (.d (.str a)),.one (.d (.str b))=>FE op a b k
 |.one (.d (.bool a)),.one (.d (.bool b))=>Px d op a b k
 |.agg xs,.agg Q=>SY G d op xs Q k
 |_,_=>False
def unA(op:UnOp)(x:AV){K:AV->Prop}(_:Box K):Prop:=
 match op,x with
 |.not,.one (.d (.bool b))=>K (bv (!b))
 |.neg,.one (.d (.int k n))=>K (iv k (k.wrap (0-n)))
 |_,_=>False
def contents(s:St)(str sl:Bool)(sz:Nat)(x:AV){K:Nat->List C->Prop}(_:Box K):Prop:=
 match x with
 |.one (.d .nsl)=>sl=T/\K 0 []
 |.one (.d (.sl es))=>sl=T/\(∀e∈es,z e=sz)/\K (z es) (es.flatten.map .d)
 |.one (.d (.str I))=>str=T/\sz=1/\K (z I) (I.map λb=>.d (tO b))
 |.one (.osl id g f off len)=>sl=T/\s.gen id=g/\f=sz/\bR (s.obj id) (bx λh=>off+len*sz<=z h/\K len ((h.drop off).take (len*sz)))
 |_=>False
def u8s:List C->Option (List Int)
 |[]=>S []
 |.d (.int .u8 n)::r=>(u8s r).map (n :: ·)
 |_=>N
def Cy:TypeDesc->Bool
 |.int .u8=>T
 |_=>F
def tP(s:St)(el:TypeDesc)(src dst:TypeDesc)(x:AV){K:AV->Prop}(_:Box K):Prop:=
 match src,dst,x with
 |a,.int k,.one (.d (.int _ n))=>okD a=T/\K (iv k (k.wrap n))
 |.string,.string,.one (.d (.str b))=>K (sv b)
 |.slice _,.string,y=>Cy el=T/\contents s F T 1 y (bx λ_ e=>bR (u8s e) (bx λo=>K (sv (o.map λn=>UInt8.ofNat n.toNat))))
 |_,_,_=>False
def Cz(n bytes:Nat):Prop:=0<bytes/\(2*n+1024)*bytes<=281474976710656
def mW(e:Nat)(A:TI)(str sl:Bool)(i d:Nat)(s:St)(x y:AV){K:St->Prop}(_:Box K):Prop:=
 match x with
 |.one (.d .nsl)=>contents s str sl A.size y (bx λn j=>Cz n A.bytes/\K ((s.newC (e+1) i j).put (S d) (.one (.osl i (nxC (e+1) (s.gen i)) A.size 0 n))))
 | .one (.osl id g sz off len)=>s.gen id=g/\sz=A.size/\bR (s.obj id) (bx λh=>off+len*sz<=z h/\
    contents s str sl A.size y (bx λn j=>Cz (len+n) A.bytes/\
     K ((s.newC (apC e (s.gen id) off) id ((h.drop off).take (len*sz)++j)).put (S d) (.one (.osl id (nxC (apC e (s.gen id) off) (s.gen id)) A.size 0 (len+n))))))
 |_=>False
def zS(s:St)(str sl:Bool)(x:AV){K:AV->Prop}(_:Box K):Prop:=
 match x with
 |.one (.d .nsl)=>sl=T/\K (iv .i64 0)
 |.one (.d (.sl es))=>sl=T/\K (iv .i64 (z es))
 |.one (.d (.str I))=>str=T/\K (iv .i64 (z I))
 |.one (.osl id g _ _ len)=>sl=T/\s.gen id=g/\(s.obj id).isSome=T/\K (iv .i64 len)
 |.one (.lsl n)=>sl=T/\K (iv .i64 n)
 |_=>False
def jJ(o:Option AV)(u:Nat){K:Nat->Prop}(_:Box K):Prop:=
 match o with
 |none=>K u
 |some (.one (.d (.int _ n)))=>0<=n/\K n.toNat
 |_=>False
def oh(s:St)(str sl:Bool)(sz:Nat)(x:AV)(lo e:Option AV){K:AV->Prop}(_:Box K):Prop:=
 match x with
 |.one (.d (.str I))=>str=T/\jJ e (z I) (bx λh=>jJ lo 0 (bx λl=>l<=h/\h<=z I/\K (sv ((I.take h).drop l))))
 |.one (.d (.sl es))=>sl=T/\jJ e (z es) (bx λh=>jJ lo 0 (bx λl=>l<=h/\h<=z es/\(∀x∈es,z x=sz)/\K (.one (.d (.sl ((es.take h).drop l))))))
 |.one (.d .nsl)=>sl=T/\jJ e 0 (bx λh=>jJ lo 0 (bx λl=>l=0/\h=0/\K (.one (.d .nsl))))
 |.one (.osl id g f off len)=>sl=T/\s.gen id=g/\(s.obj id).isSome=T/\jJ e len (bx λh=>jJ lo 0 (bx λl=>l<=h/\h<=len/\f=sz/\K (.one (.osl id g sz (off+l*sz) (h-l)))))
 |_=>False
def Li(o:Option (List C))(n:Nat):Prop:=∃l,o=S l/\n<=z l
def mv(G:Nat->TI)(d:TypeDesc)(s:St)(x:AV)(lo i:Option AV){K:AV->Prop}(_:Box K):Prop:=
 match d with
 |.array n e=>
   match x with
   |.one (.ptr id g off)=>
     match lo with
     |none=>s.gen id=g/\okD (G e).desc=T/\Li (s.obj id) (off+n*(G e).size)/\jJ i n (bx λh=>h<=n/\K (.one (.osl id g (G e).size off h)))
     |_=>False
   |_=>False
 |_=>False
def CA(sz:Nat):(k:Nat)->(ps:List (Nat×AV))->{K:List C->Prop}->Box K->Prop
 |_,[],K,_=>K []
 |k,p::r,K,_=>p.1=k/\bR (cellsOf p.2) (bx λe=>z e=sz/\CA sz (k+1) r (bx λrest=>K (e++rest)))
def kf(e sz i d n:Nat)(s:St)(ps:List (Nat×AV)){K:St->Prop}(_:Box K):Prop:=
 (z ps)=n/\n*sz<=16777216/\CA sz 0 ps (bx λh=>K ((s.newC (e+1) i h).put (S d) (.one (.osl i (nxC (e+1) (s.gen i)) sz 0 n))))
def kI(d:TypeDesc)(f:Nat):Option Field:=
 match d with
 |.struct fs=>fs[f]?
 |_=>N
def iV(G:Nat->TI)(t f:Nat)(s:St)(x:AV){K:AV->Prop}(_:Box K):Prop:=
 match x with
 |.one (.ptr id g off)=>s.gen id=g/\(s.obj id).isSome=T/\bR (kI (G t).desc f) (bx λfl=>(okD (G fl.type).desc=T/\(G fl.type).size≠0)/\K (.one (.ptr id g (off+fl.offset))))
 |.one (.d (.iptr cs))=>bR (kI (G t).desc f) (bx λfl=>(okD (G fl.type).desc=T/\(G fl.type).size≠0)/\K (.one (.d (.iptr (cs.drop fl.offset)))))
 |_=>False
def sw(G:Nat->TI)(t f:Nat)(x:AV){K:AV->Prop}(k:Box K):Prop:=
 match x with
 |.agg cs=>bR (kI (G t).desc f) (bx λfl=>okD (G fl.type).desc=T/\zR (G fl.type) cs fl.offset k)
 |_=>False
def vc(pl:Nat->Option (Nat×Nat)):(cells:List C)->(ps:List (Nat×AV))->{K:List C->Prop}->Box K->Prop
 |cells,[],K,_=>K cells
 |cells,p::r,_,k=>bR (pl p.1) (bx λq=>bR (cellsOf p.2) (bx λe=>z e=q.2/\q.1+q.2<=z cells/\vc pl (setAt cells q.1 e) r k))
def placeOf(G:Nat->TI)(d:TypeDesc)(i:Nat):Option (Nat×Nat):=
 match d with
 |.array _ e=>S (i*(G e).size,(G e).size)
 |d=>(kI d i).bind λfl=>bif okD (G fl.type).desc then S (fl.offset,(G fl.type).size)else N
def iz(G:Nat->TI)(t:Nat):Bool:=match (G t).desc with|.struct fs=>fs.toList.all λf=>okD (G f.type).desc|.array _ e=>okD (G e).desc|_=>F
def fK(G:Nat->TI)(t:Nat)(ps:List (Nat×AV)){K:AV->Prop}(_:Box K):Prop:=
 iz G t=T/\vc (placeOf G (G t).desc) ((G t).zero.map .d) ps (bx λe=>K (.agg e))
def Lj(t i d:Nat)(s:St)(x:AV){K:St->Prop}(_:Box K):Prop:=
 bR (cellsOf x) (bx λe=>K ((s.newC (t+1) i e).put (S d) (.one (.ptr i (nxC (t+1) (s.gen i)) 0))))
def yr(t:Nat)(A:TI)(i d:Nat)(s:St){K:St->Prop}(_:Box K):Prop:=
 okD A.desc=T/\K ((s.newC (t+1) i (A.zero.map .d)).put (S d) (.one (.ptr i (nxC (t+1) (s.gen i)) 0)))
def jK(s:St)(x:AV){K:AV->Prop}(_:Box K):Prop:=
 match x with
 |.one (.ptr id g off)=>s.gen id=g/\(s.obj id).isSome=T/\K (.one (.ptr id g off))
 |.one (.d (.iptr cs))=>K (.one (.d (.iptr cs)))
 |_=>False
def oq(x:AV)(i:Nat){K:AV->Prop}(k:Box K):Prop:=
 match x with
 |.tup A=>bR (A[i]?) k
 |_=>False
def mxA(e:Bool)(x y:AV){K:AV->Prop}(_:Box K):Prop:=
 match x,y with
 |.one (.d (.int k a)),.one (.d (.int _ b))=>K (iv k (if e then max a b else min a b))
 |_,_=>False
def jL(e:Nat)(A:TI)(i d:Nat)(s:St)(l c:AV){K:St->Prop}(_:Box K):Prop:=
 match l,c with
 |.one (.d (.int _ n)),.one (.d (.int _ m))=>0<=n/\n<=m/\m<=4611686018427387904/\m*A.bytes<=281474976710656/\
    K ((s.newC (e+1) i (List.replicate m.toNat (A.zero.map C.d)).flatten).put (S d) (.one (.osl i (nxC (e+1) (s.gen i)) A.size 0 n.toNat)))
 |_,_=>False
def er:Nat->TypeDesc
 |0=>.int .i8|1=>.int .i16|2=>.int .i32|3=>.int .i64|4=>.int .u8|5=>.int .u16|6=>.int .u32|7=>.int .u64
 |8=>.string
 |9=>.bool
 |_=>.invalid
def mX:TypeDesc->Nat
 |.int .i8=>0|.int .i16=>1|.int .i32=>2|.int .i64=>3|.int .u8=>4|.int .u16=>5|.int .u32=>6|.int .u64=>7
 |.string=>8
 |_=>9
def iF:TypeDesc->D->Bool
 |.int k,.int E _=>E=k
 |.string,.str _=>T
 |.bool,.bool _=>T
 |_,_=>F
def kE:D->D->Bool
 |.int k n,.int E H=>k=E&&n=H
 |.str s,.str e=>s=e
 |.bool b,.bool X=>b=X
 |_,_=>F
def mget:List C->D->Option C
 |.d E::c::r,k=>if kE E k then S c else mget r k
 |_,_=>N
def mset:List C->D->C->List C
 |.d E::c::r,k,x=>if kE E k then .d E::x::r else .d E::c::mset r k x
 |_,k,x=>[.d k,x]
def zT(agg:Bool)(n:Nat):Nat:=match agg with|true=>200+n|false=>n
def mw(G:Nat->TI)(t i d:Nat)(s:St){K:St->Prop}(_:Box K):Prop:=
 match (G t).desc with
 |.map n e=>er (mX (G n).desc)=(G n).desc/\K ((s.newC 0 i []).put (S d) (.one (.mp i (nxC 0 (s.gen i)) (zT (ez (G e).desc) (mX (G n).desc)))))
 |_=>False
def tQ(ok:Bool)(X:D)(c:Option C):AV:=if ok then .tup [.one (c.getD (.d X)),bv c.isSome]else .one (c.getD (.d X))
def zU(A:TI){K:D->Prop}(_:Box K):Prop:=
 match A.zero with
 |[X]=>(okD A.desc=T/\ez A.desc=F)/\K X
 |_=>False
def zV(X:List D):Option C->List D
 |some (.d (.iptr ds))=>ds
 |_=>X
def mY(ok:Bool)(X:List D)(c:Option C):AV:=match ok with|true=>.tup [.agg ((zV X c).map .d),bv c.isSome]|false=>.agg ((zV X c).map .d)
def zW(A:TI){K:List D->Prop}(_:Box K):Prop:=(okD A.desc=T/\2<=z A.zero)/\K A.zero
def mZ(G:Nat->TI)(t:Nat)(s:St)(x L:AV)(ok:Bool){K:AV->Prop}(_:Box K):Prop:=
 match (G t).desc,L with
 |.map n i,.one (.d k)=>(okD (G n).desc=T/\iF (G n).desc k=T)/\
   match ez (G i).desc with
   | false=>zU (G i) (bx λX=>
     match x with
     |.one (.mp id g h)=>s.gen id=g/\er h=(G n).desc/\bR (s.obj id) (bx λe=>K (tQ ok X (mget e k)))
     |.one (.d .nilm)=>K (tQ ok X N)
     | _=>False)
   | true=>zW (G i) (bx λX=>
     match x with
     |.one (.mp id g h)=>s.gen id=g/\(200<=h/\er (h-200)=(G n).desc)/\bR (s.obj id) (bx λe=>K (mY ok X (mget e k)))
     |.one (.d .nilm)=>K (mY ok X N)
     | _=>False)
 |_,_=>False
def datas:List C->Option (List D)
 |[]=>S []
 |.d x::r=>(datas r).map (x :: ·)
 |_=>N
def eR(G:Nat->TI)(t:Nat)(s:St)(m L x:AV){K:St->Prop}(_:Box K):Prop:=
 match (G t).desc,L,m,x with
 |.map n _,.one (.d k),.one (.mp id g h),.one c=>(okD (G n).desc=T/\iF (G n).desc k=T)/\s.gen id=g/\er h=(G n).desc/\bR (s.obj id) (bx λe=>K {s with obj:=upd s.obj id (S (mset e k c))})
 |.map n _,.one (.d k),.one (.mp id g h),.agg cs=>(okD (G n).desc=T/\iF (G n).desc k=T)/\s.gen id=g/\(200<=h/\er (h-200)=(G n).desc)/\bR (datas cs) (bx λds=>bR (s.obj id) (bx λe=>K {s with obj:=upd s.obj id (S (mset e k (.d (.iptr ds))))}))
 |_,_,_,_=>False
def Hj:AV->Option PC
 |.one (.d x)=>S (.d x)
 |.one (.ptr id g off)=>S (.ptr id g off)
 |_=>N
def ou:List AV->Option (List PC)
 |[]=>S []
 |x::xs=>(Hj x).bind λp=>(ou xs).bind λps=>S (p::ps)
def jM(f:FuncId)(first bf:List AV){K:AV->Prop}(_:Box K):Prop:=
 match first with
 |[]=>f<1000000/\bR (ou bf) (bx λl=>K (.one (.clo f l)))
 |x::r=>bf=[]/\bR (ou (x::r)) (bx λl=>K (.one (.clo (f+1000000) l)))
def aZ(G:Nat->TI)(t:Nat):Nat:=
 match (G t).desc with
 |.slice e=>e
 |_=>0
def bq(G:Nat->TI)(t:Nat):TI:=
 match (G t).desc with
 |.slice e=>G e
 |_=>default
def vd(s:St)(c:Call)(i:Nat):AV:=s.ev (c.args.getD i (.const .nilFunc))
structure Sp where
 op:Oper->St->(St->Prop)->Prop
 code:Code->St->(Exit->St->Prop)->Prop
 vs:St->St->Prop
 base:Nat
def bu(an:Sp)(o:Oper)(s:St){K:St->Prop}(_:Box K):Prop:=∃R,an.op o s R/\∀e,R e->K e
def On(an:Sp)(c:Code)(s:St){Q:Exit->St->Prop}(_:Box Q):Prop:=∃R,an.code c s R/\∀e h,R e h->Q e h
def isSlice(d:TypeDesc):Bool:=match d with|.slice _=>T|_=>F
def eS(G:Nat->TI):Op->Bool
 |.indexAddr _ x _=>match x with|.global _=>F|_=>T
 |.move _|.assign _|.pick .. | .load .. | .index .. | .binOp .. | .unOp .. | .slice _ _ _ _ N|.fieldAddr .. | .field .. | .build .. | .nilCheck _|.extract .. | .lookup .. | .makeFunc (.func _) _ _=>T
 |.convert _ d _=>!isSlice (G d).desc
 |.call c=>match c.callee with|.builtin .len|.builtin .max|.builtin .min=>T|_=>F
 |_=>F
def ow(G:Nat->TI)(ops:Array Oper):Bool:=
 (ops.toList.all (eS G ·.op)&&Region.lexB .any ops) ||
 [1,2,3,4].any λk=>(ops.toList.take (ops.size-k)).all (eS G ·.op)&&Region.lexTailB .any ops (ops.size-k)
def isStr(d:TypeDesc):Bool:=match d with|.string=>T|_=>F
def dQ(G:Nat->TI)(t:Nat):Bool:=isSlice (G t).desc&&okD (bq G t).desc
def na(G:Nat->TI)(src d base:Nat)(dst:Option Nat)(s:St)(x:AV){K:St->Prop}(_:Box K):Prop:=
 match dst,x with
 |some l,.one (.d (.str I))=>isStr (G src).desc=T/\Cy (bq G d).desc=T/\K ((s.newC (aZ G d+1) (base+l) (I.map λb=>.d (tO b))).put (S l) (.one (.osl (base+l) (nxC (aZ G d+1) (s.gen (base+l))) 1 0 (z I))))
 |_,_=>False
def SZ(an:Sp)(G:Nat->TI)(o:Oper)(c:Call)(s:St){K:St->Prop}(k:Box K):Prop:=
 match c.callee,o.dst with
 |.builtin .len,dst=>(c.args.size=1/\c.argTypes.size=1)/\zS s (isStr (G (c.argTypes.getD 0 0)).desc) (dQ G (c.argTypes.getD 0 0)) (vd s c 0) (bx λv=>K (s.put dst v))
 |.builtin .max,dst=>c.args.size=2/\mxA T (vd s c 0) (vd s c 1) (bx λv=>K (s.put dst v))
 |.builtin .min,dst=>c.args.size=2/\mxA F (vd s c 0) (vd s c 1) (bx λv=>K (s.put dst v))
 |.builtin .append,S d=>(c.args.size=2/\c.argTypes.size=2)/\dQ G (c.argTypes.getD 0 0)=T/\mW (aZ G (c.argTypes.getD 0 0)) (bq G (c.argTypes.getD 0 0)) (isStr (G (c.argTypes.getD 1 0)).desc) (dQ G (c.argTypes.getD 1 0)) (an.base+d) d s (vd s c 0) (vd s c 1) k
 |_,_=>bu an o s k
def opA(an:Sp)(G:Nat->TI)(o:Oper)(s:St){K:St->Prop}(k:Box K):Prop:=
 match o.op,o.dst with
 |.move x,dst=>K (s.put dst (s.ev x))
 |.assign x,dst=>K (s.put dst (s.ev x))
 |.pick c a b,dst=>qw (s.ev c) (bx λt=>K (s.put dst (if t then s.ev a else s.ev b)))
 |.load t a,dst=>va (G t) s (s.ev a) (bx λv=>K (s.put dst v))
 |.store t a x,dst=>qx (G t) s (s.ev a) (s.ev x) (bx λe=>K (e.put dst uv))
 |.indexAddr t x L,dst=>match x with
   |.global _=>bu an o s k
   |x=>bif og (G t).desc then mu G (G t).desc s (s.ev x) (s.ev L) (bx λv=>K (s.put dst v))else dQ G t=T/\iU s (bq G t).size (s.ev x) (s.ev L) (bx λv=>K (s.put dst v))
 |.index t x L,dst=>isStr (G t).desc=T/\vb (s.ev x) (s.ev L) (bx λv=>K (s.put dst v))
 |.binOp op t x y _,dst=>Cx G (G t).desc op (s.ev x) (s.ev y) (bx λv=>K (s.put dst v))
 |.unOp op _ x,dst=>unA op (s.ev x) (bx λv=>K (s.put dst v))
 |.convert src d x,dst=>bif isSlice (G d).desc then na G src d an.base dst s (s.ev x) k else tP s (bq G src).desc (G src).desc (G d).desc (s.ev x) (bx λv=>K (s.put dst v))
 |.slice t x h j N,dst=>bif og (G t).desc then mv G (G t).desc s (s.ev x) (h.map s.ev) (j.map s.ev) (bx λv=>K (s.put dst v))else oh s (isStr (G t).desc) (dQ G t) (bq G t).size (s.ev x) (h.map s.ev) (j.map s.ev) (bx λv=>K (s.put dst v))
 |.buildSlice t n ps,S d=>dQ G t=T/\kf (aZ G t) (bq G t).size (an.base+d) d n s (ps.toList.map λp=>(p.1,s.ev p.2)) k
 |.makeSlice t l c,S d=>dQ G t=T/\jL (aZ G t) (bq G t) (an.base+d) d s (s.ev l) (s.ev c) k
 |.fieldAddr t x f,dst=>iV G t f s (s.ev x) (bx λv=>K (s.put dst v))
 |.field t x f,dst=>sw G t f (s.ev x) (bx λv=>K (s.put dst v))
 |.build t ps,dst=>fK G t (ps.toList.map λp=>(p.1,s.ev p.2)) (bx λv=>K (s.put dst v))
 |.nilCheck x,dst=>jK s (s.ev x) (bx λv=>K (s.put dst v))
 |.extract x i,dst=>oq (s.ev x) i (bx λv=>K (s.put dst v))
 |.box t x,S d=>Lj t (an.base+d) d s (s.ev x) k
 |.alloc t,S d=>yr t (G t) (an.base+d) d s k
 |.makeMap t N,S d=>mw G t (an.base+d) d s k
 |.lookup t x L ok,dst=>mZ G t s (s.ev x) (s.ev L) ok (bx λv=>K (s.put dst v))
 |.mapUpdate t m L x,dst=>eR G t s (s.ev m) (s.ev L) (s.ev x) (bx λe=>K (e.put dst uv))
 |.makeFunc (.func f) first r,dst=>jM f (first.toList.map s.ev) (r.toList.map s.ev) (bx λv=>K (s.put dst v))
 |.call c,_=>SZ an G o c s k
 |_,_=>bu an o s k
def wpO(an:Sp)(G:Nat->TI)(ops:Array Oper):List Oper->(s:St)->{K:St->Prop}->(k:Box K)->Prop
 |[],s,K,_=>K s
 |o::rest,s,K,k=>
   match o.guard with
   |none=>opA an G o s (bx λe=>wpO an G ops rest e k)
   |some (j,want)=>
     bR ((ops[j]?).bind (·.dst)) (bx λd=>
      mV (s.f d) (bx λb=>if b=want then opA an G o {s with f:=upd s.f d (bv b)} (bx λe=>wpO an G ops rest e k)
       else wpO an G ops rest ({s with f:=upd s.f d (bv b)}.put o.dst uv) k) (bx (wpO an G ops rest (s.put o.dst uv) k)))
def lj{next:St->Prop}(_:Box next){Q:Exit->St->Prop}(_:Box Q):Exit->St->Prop
 |.normal,s=>next s
 |e,s=>Q e s
def jn(id:Nat){Q:Exit->St->Prop}(_:Box Q):Exit->St->Prop
 |.exit K,s=>if K=id then Q .normal s else Q (.exit K) s
 |e,s=>Q e s
def rj(an:Sp){B:(Exit->St->Prop)->St->Prop}(_:Box B){Q:Exit->St->Prop}(q:Box Q)(s:St):Prop:=
 ∃I:Nat->St->Prop,(∃n d,an.vs s d/\I n d)/\∀n s,I n s->B (lj (bx λe=>∃H d,H<n/\an.vs e d/\I H d) q) s
def rk{Q:Exit->St->Prop}(_:Box Q):Exit->St->Prop
 |.goto _,_=>False
 |e,s=>Q e s
def ll(an:Sp)(G:Nat->TI)(id:Nat)(ops:Array Oper)(s:St){Q:Exit->St->Prop}(q:Box Q):Prop:=
 (ow G ops=T/\wpO an G ops ops.toList s (bx λe=>Q .normal e))\/On an (.region id ops T) s q
def wpC(an:Sp)(G:Nat->TI):Code->{Q:Exit->St->Prop}->(q:Box Q)->St->Prop
 |.skip,Q,_,s=>Q .normal s
 |.label _,Q,_,s=>Q .normal s
 |.region id ops b,Q,q,s=>match b with|true=>ll an G id ops s q|false=>wpO an G ops ops.toList s (bx λe=>Q .normal e)
 |.seq x y,Q,q,s=>wpC an G x (bx (lj (bx λe=>wpC an G y q e) q)) s
 |.cond c x y,Q,q,s=>qw (s.ev c) (bx λb=>if b then wpC an G x q s else wpC an G y q s)
 |.block id c,Q,q,s=>wpC an G c (bx (jn id q)) s
 |.loop c,Q,q,s=>rj an (bx λQ s=>wpC an G c (bx Q) s) q s
 |.exit id,Q,_,s=>Q (.exit id) s
 |.ret,Q,_,s=>Q .ret s
 |.scope c,_,q,s=>wpC an G c (bx (rk q)) s
 |.goto l,Q,_,s=>Q (.goto l) s
 |c,_,q,s=>On an c s q
variable{s:St}{K:St->Prop}{ty:TypeId}{ps:String}{H:Array Edge}{gd:Option (Nat×Bool)}{dst:Option Tmp}{x:Operand}{t:TypeId}{n:Nat}{d:Tmp}{Q:Exit->St->Prop}{a:Array Operand}{A:Array TypeId}{c:Code}{L:Operand}{p:Array (Nat×Operand)}{next:St->Prop}{l:List Oper}{k:Box K}{q:Box Q}{b:Box next}
section equations
variable{an:Sp}{G:Nat->TI}
@[go_sem]def Oo{K:Bool->Prop}(k:Box K):kA T k=K T:=by simp[kA]
@[go_sem]def Lk{K:Bool->Prop}(k:Box K):kA F k=K F:=by simp[kA]
@[go_sem]def La(p:Prop)[Decidable p]{K:Bool->Prop}(k:Box K):kA (decide p) k=((p->K T)/\(¬p->K F)):=by simp[kA]
@[go_sem]def Py(b:Bool){K:Bool->Prop}(k:Box K):kA (!b) k=kA b (bx λt=>K (!t)):=by cases b<;>simp[kA]
@[go_sem]def Oq:ez .bool=F/\okD .bool=T/\(∀(kd:IntKind),ez (.int kd)=F)/\(∀(kd:IntKind),isSlice (.int kd)=F)/\(∀(kd:IntKind),okD (.int kd)=T)/\ez .string=F/\isSlice .string=F/\og .string=F/\okD .string=T/\(∀(e:TypeId),ez (.pointer e)=F)/\(∀(e:TypeId),okD (.pointer e)=T)/\(∀(e:TypeId),ez (.slice e)=F)/\(∀(e:TypeId),og (.slice e)=F)/\(∀(e:TypeId),okD (.slice e)=T)/\(∀(e:TypeId),isStr (.slice e)=F)/\(∀(fs:Array Field),okD (.struct fs)=T)/\Cy (.int .u8)=T/\mX (.int .i64)=3/\mX .string=8/\er 3=.int .i64/\er 8=.string/\(∀(X:List D),zV X N=X)/\datas []=S []:=by and_intros<;>intros<;>exact A6 rfl rfl
@[go_sem]def Sg(n:Nat)(e:TypeId):okD (.array n e)=T:=A6 rfl rfl
@[go_sem]def PB(a b:TypeId):ez (.map a b)=F:=A6 rfl rfl
@[go_sem]def VI(a b:TypeId):okD (.map a b)=T:=A6 rfl rfl
@[go_sem]def Ox(ps rs:Array TypeId)(v:Bool):ez (.func ps rs v)=F:=A6 rfl rfl
@[go_sem]def Tb(ps rs:Array TypeId)(v:Bool):okD (.func ps rs v)=T:=A6 rfl rfl
@[go_sem]def Sh(d:TypeDesc)(n b:Nat)(X:List D)(cells:List C)(off:Nat){K:AV->Prop}(k:Box K):zR ⟨d,n,b,X⟩ cells off k=(match ez d with|true=>off+n<=z cells/\K (.agg ((cells.drop off).take n))|false=>bR (cells[off]?) (bx λc=>K (.one c))):=A6 rfl rfl
@[go_sem]def Si(d:TypeDesc)(n b:Nat)(X:List D)(cs:List D){K:AV->Prop}(k:Box K):Hi ⟨d,n,b,X⟩ cs k=(match ez d with|true=>n<=z cs/\K (.agg ((cs.take n).map .d))|false=>bR (cs[0]?) (bx λc=>K (.one (.d c)))):=A6 rfl rfl
@[go_sem]def Lo(a b:IntKind):sameKind .add a b=(a=b):=A6 rfl rfl
@[go_sem]def Lp(a b:IntKind):sameKind .sub a b=(a=b):=A6 rfl rfl
@[go_sem]def Lq(a b:IntKind):sameKind .mul a b=(a=b):=A6 rfl rfl
@[go_sem]def Lr(a b:IntKind):sameKind .quo a b=(a=b):=A6 rfl rfl
@[go_sem]def Ls(a b:IntKind):sameKind .rem a b=(a=b):=A6 rfl rfl
@[go_sem]def Lt(a b:IntKind):sameKind .eql a b=(a=b):=A6 rfl rfl
@[go_sem]def Lu(a b:IntKind):sameKind .neq a b=(a=b):=A6 rfl rfl
@[go_sem]def Lv(a b:IntKind):sameKind .lss a b=(a=b):=A6 rfl rfl
@[go_sem]def Lx(a b:IntKind):sameKind .leq a b=(a=b):=A6 rfl rfl
@[go_sem]def Ly(a b:IntKind):sameKind .gtr a b=(a=b):=A6 rfl rfl
@[go_sem]def Lz(a b:IntKind):sameKind .geq a b=(a=b):=A6 rfl rfl
@[go_sem]def LA(a b:IntKind):sameKind .and a b=(a=b):=A6 rfl rfl
@[go_sem]def Oy(a b:IntKind):sameKind .or a b=(a=b):=A6 rfl rfl
@[go_sem]def Sj(sz n i:Nat)(x:AV)(r:List (Nat×AV)){K:List C->Prop}(k:Box K):CA sz n ((i,x)::r) k=(i=n/\bR (cellsOf x) (bx λcs=>z cs=sz/\CA sz (n+1) r (bx λrest=>K (cs++rest)))):=A6 rfl rfl
@[go_sem]def PE(pl:Nat->Option (Nat×Nat))(cells:List C)(i:Nat)(x:AV)(r:List (Nat×AV)){K:List C->Prop}(k:Box K):vc pl cells ((i,x)::r) k=bR (pl i) (bx λq=>bR (cellsOf x) (bx λcs=>z cs=q.2/\q.1+q.2<=z cells/\vc pl (setAt cells q.1 cs) r k)):=A6 rfl rfl
@[go_sem]def PF(fs:Array Field)(i:Nat):placeOf G (.struct fs) i=(kI (.struct fs) i).bind λfl=>bif okD (G fl.type).desc then S (fl.offset,(G fl.type).size)else N:=A6 rfl rfl
@[go_sem]def VK(e h:IntKind)(a b:Int){K:AV->Prop}(k:Box K):mxA T (.one (.d (.int e a))) (.one (.d (.int h b))) k=K (iv e (max a b)):=A6 rfl rfl
@[go_sem]def Tc(d:TypeDesc)(a b:Nat)(X:List D){K:List D->Prop}(k:Box K):zW ⟨d,a,b,X⟩ k=((okD d=T/\2<=z X)/\K X):=A6 rfl rfl
@[go_sem]def Td(d:TypeDesc)(a b:Nat)(X:D){K:D->Prop}(k:Box K):zU ⟨d,a,b,[X]⟩ k=((okD d=T/\ez d=F)/\K X):=A6 rfl rfl
@[go_sem]def PG(t:Nat)(s:St)(x:AV)(k:D)(ok:Bool){K:AV->Prop}(b:Box K):mZ G t s x (.one (.d k)) ok b=(match (G t).desc with
 |.map n e=>(okD (G n).desc=T/\iF (G n).desc k=T)/\
   match ez (G e).desc with
   | false=>zU (G e) (bx λX=>
     match x with
     |.one (.mp id g kd)=>s.gen id=g/\er kd=(G n).desc/\bR (s.obj id) (bx λcells=>K (tQ ok X (mget cells k)))
     |.one (.d .nilm)=>K (tQ ok X N)
     | _=>False)
   | true=>zW (G e) (bx λX=>
     match x with
     |.one (.mp id g kd)=>s.gen id=g/\(200<=kd/\er (kd-200)=(G n).desc)/\bR (s.obj id) (bx λcells=>K (mY ok X (mget cells k)))
     |.one (.d .nilm)=>K (mY ok X N)
     | _=>False)
 | _=>False):=by unfold mZ;cases (G t).desc<;>rfl
@[go_sem]def Hm(t:Nat)(s:St)(id g kd:Nat)(k:D)(cs:List C)(b:Box K):eR G t s (.one (.mp id g kd)) (.one (.d k)) (.agg cs) b=(match (G t).desc with
 |.map n _=>(okD (G n).desc=T/\iF (G n).desc k=T)/\s.gen id=g/\(200<=kd/\er (kd-200)=(G n).desc)/\bR (datas cs) (bx λds=>bR (s.obj id) (bx λcells=>K {s with obj:=upd s.obj id (S (mset cells k (.d (.iptr ds))))}))
 | _=>False):=by unfold eR;cases (G t).desc<;>rfl
@[go_sem]def Lc(t:Nat)(s:St)(id g kd:Nat)(k:D)(c:C)(b:Box K):eR G t s (.one (.mp id g kd)) (.one (.d k)) (.one c) b=(match (G t).desc with
 |.map n _=>(okD (G n).desc=T/\iF (G n).desc k=T)/\s.gen id=g/\er kd=(G n).desc/\bR (s.obj id) (bx λcells=>K {s with obj:=upd s.obj id (S (mset cells k c))})
 | _=>False):=by unfold eR;cases (G t).desc<;>rfl
@[go_sem]def Sq:ou []=S []:=A6 rfl rfl
@[go_sem]def Hn(f:FuncId)(x:AV)(r:List AV){K:AV->Prop}(k:Box K):jM f (x::r) [] k=bR (ou (x::r)) (bx λl=>K (.one (.clo (f+1000000) l))):=propext ⟨λh=>h.2,λh=>⟨rfl,h⟩⟩
@[go_sem]def Te:opA an G ⟨dst,.move x,ty,ps,H,gd⟩ s k=K (s.put dst (s.ev x))/\opA an G ⟨dst,.assign x,ty,ps,H,gd⟩ s k=K (s.put dst (s.ev x))/\(opA an G ⟨dst,.nilCheck x,ty,ps,H,gd⟩ s k=jK s (s.ev x) (bx λv=>K (s.put dst v)))/\(∀{i:Nat},opA an G ⟨dst,.extract x i,ty,ps,H,gd⟩ s k=oq (s.ev x) i (bx λv=>K (s.put dst v))):=by and_intros<;>intros<;>exact A6 rfl rfl
@[go_sem]def Tf{c a b:Operand}:opA an G ⟨dst,.pick c a b,ty,ps,H,gd⟩ s k=qw (s.ev c) (bx λt=>K (s.put dst (if t then s.ev a else s.ev b))):=A6 rfl rfl
@[go_sem]def Tg{a:Operand}:opA an G ⟨dst,.load t a,ty,ps,H,gd⟩ s k=va (G t) s (s.ev a) (bx λv=>K (s.put dst v)):=A6 rfl rfl
@[go_sem]def Sr{a x:Operand}:opA an G ⟨dst,.store t a x,ty,ps,H,gd⟩ s k=qx (G t) s (s.ev a) (s.ev x) (bx λe=>K (e.put dst uv)):=A6 rfl rfl
@[go_sem]def Ld{x:Nat}:opA an G ⟨dst,.indexAddr t (.tmp x) L,ty,ps,H,gd⟩ s k=(bif og (G t).desc then mu G (G t).desc s (s.f x) (s.ev L) (bx λv=>K (s.put dst v))else dQ G t=T/\iU s (bq G t).size (s.f x) (s.ev L) (bx λv=>K (s.put dst v))):=A6 rfl rfl
@[go_sem]def Ti{t g:Nat}:opA an G ⟨dst,.indexAddr t (.global g) L,ty,ps,H,gd⟩ s k=bu an ⟨dst,.indexAddr t (.global g) L,ty,ps,H,gd⟩ s k:=A6 rfl rfl
@[go_sem]def Ss{x L:Operand}:opA an G ⟨dst,.index t x L,ty,ps,H,gd⟩ s k=(isStr (G t).desc=T/\vb (s.ev x) (s.ev L) (bx λv=>K (s.put dst v))):=A6 rfl rfl
@[go_sem]def Su{o:BinOp}{t u:TypeId}{x y:Operand}:opA an G ⟨dst,.binOp o t x y u,ty,ps,H,gd⟩ s k=Cx G (G t).desc o (s.ev x) (s.ev y) (bx λv=>K (s.put dst v)):=A6 rfl rfl
@[go_sem]def Tj:(∀{o:UnOp},opA an G ⟨dst,.unOp o t x,ty,ps,H,gd⟩ s k=unA o (s.ev x) (bx λv=>K (s.put dst v)))/\(∀{lo e:Option Operand},opA an G ⟨dst,.slice t x lo e N,ty,ps,H,gd⟩ s k=(bif og (G t).desc then mv G (G t).desc s (s.ev x) (lo.map s.ev) (e.map s.ev) (bx λv=>K (s.put dst v))else oh s (isStr (G t).desc) (dQ G t) (bq G t).size (s.ev x) (lo.map s.ev) (e.map s.ev) (bx λv=>K (s.put dst v)))):=by and_intros<;>intros<;>exact A6 rfl rfl
@[go_sem]def OB{t u:TypeId}:opA an G ⟨dst,.convert t u x,ty,ps,H,gd⟩ s k=(bif isSlice (G u).desc then na G t u an.base dst s (s.ev x) k else tP s (bq G t).desc (G t).desc (G u).desc (s.ev x) (bx λv=>K (s.put dst v))):=A6 rfl rfl
@[go_sem]def Hp{t n:Nat}:opA an G ⟨(S d),.buildSlice t n p,ty,ps,H,gd⟩ s k=(dQ G t=T/\kf (aZ G t) (bq G t).size (an.base+d) d n s (p.toList.map λp=>(p.1,s.ev p.2)) k):=A6 rfl rfl
@[go_sem]def Le{l c:Operand}:opA an G ⟨(S d),.makeSlice t l c,ty,ps,H,gd⟩ s k=(dQ G t=T/\jL (aZ G t) (bq G t) (an.base+d) d s (s.ev l) (s.ev c) k):=A6 rfl rfl
@[go_sem]def VL:(opA an G ⟨dst,.call ⟨.builtin .len,a,A⟩,ty,ps,H,gd⟩ s k=((a.size=1/\A.size=1)/\zS s (isStr (G (A.getD 0 0)).desc) (dQ G (A.getD 0 0)) (s.ev (a.getD 0 (.const .nilFunc))) (bx λv=>K (s.put dst v))))/\(opA an G ⟨dst,.call ⟨.builtin .max,a,A⟩,ty,ps,H,gd⟩ s k=(a.size=2/\mxA T (s.ev (a.getD 0 (.const .nilFunc))) (s.ev (a.getD 1 (.const .nilFunc))) (bx λv=>K (s.put dst v)))):=by and_intros<;>exact A6 rfl rfl
@[go_sem]def PI:opA an G ⟨(S d),.call ⟨.builtin .append,a,A⟩,ty,ps,H,gd⟩ s k=((a.size=2/\A.size=2)/\dQ G (A.getD 0 0)=T/\mW (aZ G (A.getD 0 0)) (bq G (A.getD 0 0)) (isStr (G (A.getD 1 0)).desc) (dQ G (A.getD 1 0)) (an.base+d) d s (s.ev (a.getD 0 (.const .nilFunc))) (s.ev (a.getD 1 (.const .nilFunc))) k):=A6 rfl rfl
@[go_sem]def Lf{t f:Nat}:opA an G ⟨dst,.fieldAddr t x f,ty,ps,H,gd⟩ s k=iV G t f s (s.ev x) (bx λv=>K (s.put dst v)):=A6 rfl rfl
@[go_sem]def Sw{t f:Nat}:opA an G ⟨dst,.field t x f,ty,ps,H,gd⟩ s k=sw G t f (s.ev x) (bx λv=>K (s.put dst v)):=A6 rfl rfl
@[go_sem]def Sx{t:Nat}:opA an G ⟨dst,.build t p,ty,ps,H,gd⟩ s k=fK G t (p.toList.map λp=>(p.1,s.ev p.2)) (bx λv=>K (s.put dst v)):=A6 rfl rfl
@[go_sem]def VM{t:Nat}:opA an G ⟨(S d),.box t x,ty,ps,H,gd⟩ s k=Lj t (an.base+d) d s (s.ev x) k:=A6 rfl rfl
@[go_sem]def Sy{t:Nat}:opA an G ⟨(S d),.alloc t,ty,ps,H,gd⟩ s k=yr t (G t) (an.base+d) d s k:=A6 rfl rfl
@[go_sem]def OD:opA an G ⟨(S d),.makeMap t N,ty,ps,H,gd⟩ s k=mw G t (an.base+d) d s k:=A6 rfl rfl
@[go_sem]def PJ{x L:Operand}{ok:Bool}:opA an G ⟨dst,.lookup t x L ok,ty,ps,H,gd⟩ s k=mZ G t s (s.ev x) (s.ev L) ok (bx λv=>K (s.put dst v)):=A6 rfl rfl
@[go_sem]def Lg{m L x:Operand}:opA an G ⟨dst,.mapUpdate t m L x,ty,ps,H,gd⟩ s k=eR G t s (s.ev m) (s.ev L) (s.ev x) (bx λe=>K (e.put dst uv)):=A6 rfl rfl
@[go_sem]def LC{f:FuncId}{first bf:Array Operand}:opA an G ⟨dst,.makeFunc (.func f) first bf,ty,ps,H,gd⟩ s k=jM f (first.toList.map s.ev) (bf.toList.map s.ev) (bx λv=>K (s.put dst v)):=A6 rfl rfl
@[go_sem]def Tk{f:Operand}:opA an G ⟨dst,.call ⟨.value f,a,A⟩,ty,ps,H,gd⟩ s k=bu an ⟨dst,.call ⟨.value f,a,A⟩,ty,ps,H,gd⟩ s k:=A6 rfl rfl
@[go_sem]def SA:lj b q .ret s=Q .ret s:=A6 rfl rfl
@[go_sem]def PK:lj b q (.exit n) s=Q (.exit n) s:=A6 rfl rfl
@[go_sem]def Hg:jn n q .normal s=Q .normal s/\jn n q .ret s=Q .ret s:=by and_intros<;>exact A6 rfl rfl
@[go_sem]def OE:rk q .ret s=Q .ret s:=A6 rfl rfl
@[go_sem]def OF:=x6 @bR.eq_1 (x6 @qw.eq_1 (x6 @mV.eq_1 (x6 @mV.eq_2 (x6 @isStr.eq_1 (x6 @isSlice.eq_1 (x6 @ez.eq_2 (x6 @og.eq_1 (x6 @ez.eq_1 (x6 @va.eq_1 (x6 @va.eq_2 (x6 @qx.eq_1 (x6 @cellsOf.eq_1 (x6 @cellsOf.eq_2 (x6 @setAt.eq_1 (x6 @setAt.eq_2 (x6 @mu.eq_1 (x6 @iU.eq_1 (x6 @iU.eq_2 (x6 @vb.eq_1 (x6 @nV.eq_1 (x6 @nV.eq_2 (x6 @nV.eq_3 (x6 @nV.eq_4 (x6 @nV.eq_5 (x6 @nV.eq_6 (x6 @nV.eq_7 (x6 @nV.eq_8 (x6 @nV.eq_9 (x6 @nV.eq_10 (x6 @nV.eq_11 (x6 @nV.eq_12 (x6 @nV.eq_13 (x6 @nV.eq_16 (x6 @sameKind.eq_1 (x6 @nV.eq_17 (x6 @sameKind.eq_2 (x6 @FE.eq_1 (x6 @FE.eq_2 (x6 @FE.eq_3 (x6 @Cx.eq_1 (x6 @Cx.eq_2 (x6 @Cx.eq_3 (x6 @Px.eq_2 (x6 @unA.eq_1 (x6 @tP.eq_1 (x6 @tP.eq_3 (x6 @contents.eq_2 (x6 @contents.eq_3 (x6 @contents.eq_4 (x6 @mW.eq_1 (x6 @mW.eq_2 (x6 @zS.eq_2 (x6 @zS.eq_3 (x6 @zS.eq_4 (x6 @jJ.eq_1 (x6 @jJ.eq_2 (x6 @oh.eq_1 (x6 @oh.eq_2 (x6 @oh.eq_4 (x6 @CA.eq_1 (x6 @kf.eq_1 (x6 @kI.eq_1 (x6 @iV.eq_1 (x6 @iV.eq_2 (x6 @sw.eq_1 (x6 @vc.eq_1 (x6 @fK.eq_1 (x6 @Lj.eq_1 (x6 @yr.eq_1 (x6 @jK.eq_1 (x6 @jK.eq_2 (x6 @oq.eq_1 (x6 @jL.eq_1 (x6 @iF.eq_1 (x6 @iF.eq_2 (x6 @zT.eq_1 (x6 @zT.eq_2 (x6 @mY.eq_1 (x6 @mY.eq_2 (x6 @zV.eq_1 (x6 @datas.eq_2 (x6 @mw.eq_1 (x6 @Hj.eq_2 (x6 @ou.eq_2 (x6 @jM.eq_1 (x6 @na.eq_1 (x6 @St.ev.eq_1 (x6 @St.ev.eq_2 (x6 @St.ev.eq_4 (x6 @yp.eq_1 (x6 @yp.eq_2 (x6 @yp.eq_3 (x6 @yp.eq_4 (x6 @yp.eq_5 (x6 @lj.eq_1 (x6 @jn.eq_1 @St.newC.eq_1))))))))))))))))))))))))))))))))))))))))))))))))))))))))))))))))))))))))))))))))))))))))))))))))
section steps
variable{f:Nat->AV}{g:Nat->Nat}{ob:Nat->Option (List C)}{Q:Exit->St->Prop}{q:Box Q}{K:St->Prop}{k:Box K}{ops:Array Oper}{rest:List Oper}
@[go_sem]def Tl:wpC an G .skip q ⟨f,g,ob⟩=Q .normal ⟨f,g,ob⟩:=A6 rfl rfl
@[go_sem]def SC:wpC an G (.label n) q ⟨f,g,ob⟩=Q .normal ⟨f,g,ob⟩:=A6 rfl rfl
@[go_sem]def SD:wpC an G (.scope c) q ⟨f,g,ob⟩=wpC an G c (bx (rk q)) ⟨f,g,ob⟩:=A6 rfl rfl
@[go_sem]def Tm:wpC an G (.region n l.toArray T) q ⟨f,g,ob⟩=ll an G n l.toArray ⟨f,g,ob⟩ q:=A6 rfl rfl
@[go_sem]def PL:wpC an G (.region n l.toArray F) q ⟨f,g,ob⟩=wpO an G l.toArray l ⟨f,g,ob⟩ (bx λe=>Q .normal e):=by simp[wpC]
@[go_sem]def VO{x y:Code}:wpC an G (.seq x y) q ⟨f,g,ob⟩=wpC an G x (bx (lj (bx λe=>wpC an G y q e) q)) ⟨f,g,ob⟩:=A6 rfl rfl
@[go_sem]def Tn{c:Operand}{x y:Code}:wpC an G (.cond c x y) q ⟨f,g,ob⟩=qw (St.ev ⟨f,g,ob⟩ c) (bx λb=>if b then wpC an G x q ⟨f,g,ob⟩else wpC an G y q ⟨f,g,ob⟩):=A6 rfl rfl
@[go_sem]def SE:wpC an G (.block n c) q ⟨f,g,ob⟩=wpC an G c (bx (jn n q)) ⟨f,g,ob⟩:=A6 rfl rfl
@[go_sem]def To:wpC an G (.loop c) q ⟨f,g,ob⟩=rj an (bx λQ s=>wpC an G c (bx Q) s) q ⟨f,g,ob⟩:=A6 rfl rfl
@[go_sem]def Tq:wpC an G (.exit n) q ⟨f,g,ob⟩=Q (.exit n) ⟨f,g,ob⟩:=A6 rfl rfl
@[go_sem]def VP:wpC an G .ret q ⟨f,g,ob⟩=Q .ret ⟨f,g,ob⟩:=A6 rfl rfl
@[go_sem]def VQ:wpO an G ops [] ⟨f,g,ob⟩ k=K ⟨f,g,ob⟩:=A6 rfl rfl
@[go_sem]def Ts{op:Op}:
  wpO an G ops (⟨dst,op,ty,ps,H,N⟩::rest) ⟨f,g,ob⟩ k=opA an G ⟨dst,op,ty,ps,H,N⟩ ⟨f,g,ob⟩ (bx λe=>wpO an G ops rest e k):=A6 rfl rfl
@[go_sem]def Tu{op:Op}{j:Nat}{t:Bool}:
  wpO an G ops (⟨dst,op,ty,ps,H,S (j,t)⟩::rest) ⟨f,g,ob⟩ k =
   bR ((ops[j]?).bind (·.dst)) (bx λd=>
    mV (f d) (bx λb=>if b=t then opA an G ⟨dst,op,ty,ps,H,S (j,t)⟩ ⟨upd f d (bv b),g,ob⟩ (bx λe=>wpO an G ops rest e k)
     else wpO an G ops rest (St.put ⟨upd f d (bv b),g,ob⟩ dst uv) k) (bx (wpO an G ops rest (St.put ⟨f,g,ob⟩ dst uv) k))):=A6 rfl rfl
end steps
@[go_sem]def St.put_some(s:St)(d:Nat)(v:AV):s.put (S d) v = {s with f:=upd s.f d v}:=A6 rfl rfl
@[go_sem]def St.put_none(s:St)(v:AV):s.put N v=s:=A6 rfl rfl
@[go_sem]def SF:=@upd.eq_1
attribute [go_sem] Nat.reduceEqDiff Nat.reduceAdd Nat.reduceMul Nat.reduceSub Nat.reduceLT Nat.reduceLeDiff Int.reduceLT Int.reduceLE Int.reduceEq Int.reduceNe Int.reduceAdd Int.reduceNeg Int.reduceToNat
attribute [go_sem] if_true if_false ite_true ite_false and_true true_and List.length_map List.length_cons List.length_nil List.size_toArray Option.bind_some Option.map_some Option.map_none Option.bind_none cond_true cond_false List.append_nil List.cons_append List.set_cons_zero List.set_cons_succ List.set_nil List.drop_succ_cons List.take_succ_cons List.take_zero
attribute [go_sem] Array.getD_eq_getD_getElem? List.getElem?_toArray List.getElem?_cons_zero List.getElem?_cons_succ List.getElem?_nil Option.getD_some Option.getD_none List.getElem?_map
attribute [go_sem] List.drop_zero List.take_length Nat.mul_one Nat.zero_add List.map_cons List.map_nil List.nil_append reduceCtorEq not_true_eq_false not_false_eq_true implies_true Bool.not_true Bool.not_false Bool.true_eq_false Bool.false_eq_true
attribute [go_sem] Option.some.injEq Option.isSome_some decide_true decide_false ne_eq Int.toNat_natCast
end equations
end
end
end Go.Am

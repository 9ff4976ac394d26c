/- A part; no conditions. -/
import Derived.KernelRfl
import Derived.Shelf.Strings.SlTrimAscii
import Derived.Shelf.Strings.IndexAnyAll
import Derived.Shelf.Strings.Runes
import Derived.Test.YtfdbpgoicedpcaaGreatDoorProg
import Derived.Shelf.Strings.Repeat
import Derived.Shelf.Strings.OnBuilder
import Derived.Laws.RangeAny
import Derived.WalkMore
import Derived.Shelf.RegionOpenPlain
import Derived.BigQuiet
import Derived.Laws.Runes
import Derived.Shelf.Small.Utf8
import Derived.Lib.QuoteLoop
import Derived.Lib.TrimU
import Derived.Lib.OthersKept
import Derived.Shelf.Strconv.Itoa3
import Derived.StillTail
import Derived.Deep.Quiet
set_option linter.all false
open List renaming length -> z
open Option renaming some -> S, none -> N
open Bool renaming true -> T, false -> F
namespace Go
section
variable{P:Prop}
def a7(h:P:=by omega):P:=h
def a8(h:P:=by decide):P:=h
def b9(h:P:=by simp):P:=h
def c8(h:P:=by rfl):P:=h
def c9(h:P:=by decide +kernel):P:=h
def j0(h:P:=by kernel_rfl):P:=h
def j4(h:P:=by assumption):P:=h
abbrev j6:=@List.length_map
abbrev j7:=@List.length_append
abbrev j8:=@List.length_cons
abbrev l4:=@if_neg
abbrev l5:=@List.length_nil
abbrev l6:=@Bool.and_eq_true
abbrev l7:=@Nat.le_refl
abbrev l8:=@List.mem_of_getElem?
abbrev l9:=@List.getElem?_eq_some_iff
abbrev s5:=@if_pos
abbrev s6:=@List.take_of_length_le
abbrev s7:=@List.map_cons
abbrev s9:=@List.append_assoc
abbrev u7:=@List.append_nil
abbrev v7:=@List.eq_nil_of_length_eq_zero
abbrev v8:=@decide_eq_true_eq
abbrev w7:=@Option.some.injEq
abbrev w8:=@List.getElem?_cons_succ
abbrev w9:=@eq_true
abbrev x6:=@List.getElem?_cons_zero
abbrev x7:=@List.map_nil
abbrev x8:=@List.getElem?_toArray
abbrev x9:=@List.getElem?_eq_getElem
abbrev y7:=@And.intro
abbrev y8:=@List.drop_of_length_le
abbrev y9:=@Array.getD_eq_getD_getElem?
abbrev z6:=@List.cons_append
abbrev z7:=@List.all_eq_true
abbrev A0:=@List.mem_cons
abbrev A3:=@List.nil_append
abbrev A4:=@List.getElem?_map
abbrev A5:=@Option.map_some
abbrev A6:=@True.intro
abbrev A7:=@Bool.true_and
abbrev A8:=@List.flatMap_cons
abbrev A9:=@List.not_mem_nil
abbrev B1:=@if_false
abbrev B3:=@if_true
abbrev B4:=@Bool.false_eq_true
abbrev B5:=@Bool.false_and
abbrev B6:=@Option.getD_some
abbrev B7:=@Eq.trans
abbrev B8:=@List.drop_eq_getElem_cons
abbrev B9:=@Array.getElem?_eq_getElem
abbrev C0:=@Int.toNat_natCast
abbrev C1:=@List.take_add_one
abbrev C2:=@List.map_append
abbrev C3:=@Option.isSome_some
abbrev C4:=@Nat.le_trans
abbrev C5:=@Ne.symm
abbrev C6:=@List.mem_append
abbrev C7:=@Int.le_refl
abbrev C8:=@List.mem_singleton
abbrev C9:=@List.getElem?_of_mem
abbrev D0:=@Option.isSome_none
abbrev D1:=@List.all_cons
abbrev D2:=@Nat.zero_add
abbrev D3:=@Bool.and_false
abbrev D4:=@Nat.add_assoc
abbrev D5:=@List.take_succ_cons
abbrev D6:=@List.drop_zero
abbrev D7:=@Array.getElem?_replicate
abbrev D8:=@or_false
abbrev D9:=@List.drop_succ_cons
abbrev E0:=@List.mem_range
abbrev E3:=@List.getElem?_set
abbrev E4:=@decide_eq_true
abbrev E5:=@List.length_take
abbrev E6:=@List.mem_map
abbrev E7:=@Nat.le_of_eq
abbrev E8:=@List.take_length
abbrev E9:=@List.drop_length
abbrev F0:=@Option.map_eq_some_iff
abbrev F1:=@Array.getElem?_eq_some_iff
abbrev F2:=@Array.getElem?_append_left
abbrev F3:=@Nat.lt_of_lt_of_le
abbrev F6:=@Nat.lt_of_le_of_lt
abbrev F7:=@List.all_append
abbrev F8:=@Option.some.inj
abbrev F9:=@List.length_set
abbrev G0:=@decide_eq_false
abbrev G1:=@Bool.and_assoc
abbrev G2:=@Array.getElem?_append_right
abbrev G3:=@List.take_append_drop
abbrev G4:=@Array.getElem?_toList
abbrev G5:=@List.foldl_cons
abbrev G6:=@List.length_drop
abbrev G7:=@Option.map_none
abbrev G8:=@List.take_zero
abbrev G9:=@Bool.or_eq_true
abbrev H0:=@Array.getElem_mem_toList
abbrev H2:=@List.sum_cons
abbrev H3:=@List.length_replicate
abbrev H4:=@List.length_singleton
abbrev H5:=@Nat.le_of_ble_eq_true
abbrev H6:=@List.getElem?_append_right
abbrev H7:=@List.forall_mem_append
abbrev H8:=@Array.ext'
abbrev H9:=@List.takeWhile_cons
abbrev I1:=@List.getElem?_eq_none
abbrev I2:=@List.set_append_right
abbrev I3:=@Bool.and_true
abbrev I4:=@Bool.not_false
abbrev I5:=@List.eq_of_mem_replicate
abbrev I6:=@List.mem_mapIdx
abbrev I7:=@List.mem_cons_self
abbrev I8:=@Option.toList_some
abbrev I9:=@Option.bind_some
abbrev J0:=@List.length_pos_iff
abbrev J1:=@List.mem_or_eq_of_mem_set
abbrev J2:=@List.flatMap_nil
abbrev J3:=@Nat.add_zero
abbrev J4:=@Option.isSome_iff_exists
abbrev J5:=@Nat.mul_le_mul_right
abbrev J6:=@Nat.add_mul
abbrev J7:=@Bool.not_eq_true'
abbrev J8:=@List.flatten_cons
abbrev J9:=@List.replicate_succ
abbrev K7:=@decide_false
abbrev K8:=@Nat.sub_self
abbrev K9:=@List.append_eq_nil_iff
abbrev LK:=@Nat.mul_one
abbrev LL:=@Nat.zero_le
abbrev L0:=@Nat.le_add_right
abbrev L1:=@List.set_cons_zero
abbrev L2:=@beq_iff_eq
abbrev L3:=@List.getElem?_take
abbrev L4:=@Nat.div_le_self
abbrev L5:=@List.getElem?_append
abbrev L6:=@List.replicate_zero
abbrev L7:=@Int.toNat_of_nonneg
abbrev L8:=@Nat.mod_eq_of_lt
abbrev L9:=@List.mapIdx_cons
abbrev M0:=@UInt8.toNat_ofNat'
abbrev M1:=@Nat.le_of_lt
abbrev M3:=@List.filter_eq_nil_iff
abbrev M4:=@List.length_eq_one_iff
abbrev M5:=@Nat.div_div_eq_div_mul
abbrev M6:=@Array.getElem?_setIfInBounds
abbrev M7:=@List.dropLast_concat_getLast
abbrev M8:=@Prod.mk.injEq
abbrev M9:=@not_false_eq_true
abbrev N0:=@List.ext_getElem?
abbrev N1:=@Nat.mod_lt
abbrev N2:=@List.getElem?_set_ne
abbrev N3:=@List.getD_eq_getElem?_getD
abbrev N4:=@List.mem_of_mem_take
abbrev N5:=@List.mem_of_mem_drop
abbrev N6:=@List.getElem_mem
abbrev N7:=@List.map_set
abbrev N8:=@List.getElem?_eq_none_iff
abbrev N9:=@List.getElem?_append_left
abbrev O0:=@List.getD_cons_zero
abbrev O2:=@Array.length_toList
abbrev O6:=@List.map_congr_left
abbrev O7:=@List.flatMap_append
abbrev O8:=@List.sum_append
abbrev O9:=@Int.natCast_mul
abbrev P0:=@Array.all_eq_true'
abbrev P1:=@List.getElem?_drop
abbrev P2:=@List.map_replicate
abbrev P3:=@List.length_eq_zero_iff
abbrev P4:=@Nat.add_sub_cancel_left
abbrev P5:=@List.foldl_nil
abbrev P6:=@and_true
abbrev P7:=@List.getElem?_set_self
abbrev P8:=@List.map_map
abbrev P9:=@Array.getElem?_eq_none
abbrev QB:=@List.flatten_replicate_singleton
abbrev QN:=@List.takeWhile_sublist
abbrev QO:=@Nat.pow_succ
abbrev Q0:=@List.contains_iff_mem
abbrev Q1:=@List.singleton_append
abbrev Q2:=@List.any_eq_true
abbrev Q3:=@Array.eq_empty_of_size_eq_zero
abbrev Q4:=@or_true
abbrev Q5:=@List.mem_cons_of_mem
abbrev Q6:=@List.range_eq_range'
abbrev Q7:=@Array.size_replicate
abbrev Q8:=@Nat.le_antisymm
abbrev Q9:=@UInt8.toNat_inj
abbrev Rc:=@List.nodup_cons
abbrev Rf:=@List.range_succ
abbrev R4:=@List.getD_cons_succ
abbrev R5:=@List.reverse_append
abbrev R6:=@true_or
abbrev R7:=@Nat.pow_zero
abbrev R8:=@List.set_cons_succ
abbrev R9:=@List.drop_drop
abbrev S7:=@List.isPrefixOf_iff_prefix
abbrev S8:=@Classical.byContradiction
abbrev S9:=@not_true_eq_false
abbrev T0:=@decide_true
abbrev T1:=@List.mapM_toArray
abbrev T2:=@List.foldl_append
abbrev T3:=@List.isEmpty_cons
abbrev T4:=@Bool.not_true
abbrev T5:=@Option.getD_none
abbrev T6:=@List.isEmpty_nil
abbrev T7:=@List.getElem?_replicate
abbrev T8:=@List.countP_cons
abbrev T9:=@Nat.le_mul_of_pos_right
abbrev UL:=@List.sum_nil
abbrev UM:=@List.head?_eq_getElem?
abbrev UN:=@List.cons.injEq
abbrev UO:=@List.mem_filter
abbrev UR:=@Nat.min_eq_left
abbrev US:=@Bool.eq_iff_iff
abbrev UU:=@List.countP_replicate
abbrev U0:=@List.nodup_nil
abbrev U1:=@Nat.div_one
abbrev U2:=@cond_false
abbrev U3:=@List.all_nil
abbrev U4:=@Nat.lt_or_ge
abbrev U5:=@Nat.mul_comm
abbrev U6:=@Nat.add_comm
abbrev U7:=@cond_true
abbrev U8:=@not_or
def dM(h:P:=by simp only[go_sem];refine⟨_,ai.refl _,?_⟩;simp only[go_sem];exact bS.nil (λi hi=>⟨nt ((fr i hi).1),nt ((fr i hi).2)⟩) (q:=[bv F]) ⟨_,_,rfl,.one (.d _),rfl⟩ ⟨rfl,rfl,rfl⟩):P:=h
def dT(h:P:=by
 refine this.mono λe w' hE=>?_;rcases hE with⟨v,r,g',Y,E,he,hR,hv,U,Z,h3⟩|⟨ch,g',Y,E,he,b,U,Z,h3⟩;.subst he;obtain⟨k1,k2⟩:=kC V c hv U Z h3;exact⟨k1.defers,hn _ E _ w' ⟨r,g',Y,hR,rfl⟩ k1 (a6 _ _ _ _ _ _ _ A k2)⟩
 .subst he;have hk:ik O β s.gen s.obj w E g' Y w':=h3.keep;have ht:Tr O β s w E ⟨s.f,g',Y⟩ w':=⟨h3.size,h3.old,hk,h3.os⟩;exact g ch ⟨s.f,g',Y⟩ E a w' (I _ _ _ b) ⟨V.defers,V.size,λi=>ao.keep hk _ (V.f i),U,Z,C4 V.base h3.size⟩ (a6 _ _ _ _ _ _ _ A ht)):P:=h
def gD(h:P:=by rintro r g' Y⟨f1,f2⟩;simp only[go_sem];exact bY (.inr rfl) (fin (λi hi=>by (try simp only[upd]);grind) (λi hi=>by (try simp only[upd]);grind) f1 f2)):P:=h
def gG(h:P:=by
 rintro n f g' Y⟨k,hk,q0,q4,q3,q⟩;simp only at q0 q4 q3 q;have hw:=ah (k:=k) a7;by_cases af:k<32
 .have H:(k:Int)<32:=a7;have cm:a/2^k<4294967296:=F6 (L4 _ _) ha;have m:a/2^(k+1)=a/2^k/2:=by rw[QO,M5]
  have b2:=Bw (a:=a) af;generalize a/2^k=v at q0 cm m b2;have hm:(v:Int).tmod 2=((v%2:Nat):Int):=rfl;have hd:(v:Int).tdiv 2=((v/2:Nat):Int):=rfl;have t:IntKind.i64.wrap ((v%2:Nat):Int)=((v%2:Nat):Int):=by rw[wrap_i64]<;>omega
  have b:IntKind.u32.wrap ((v%2:Nat):Int)=((v%2:Nat):Int):=fH a7;have cv:IntKind.u32.wrap ((v/2:Nat):Int)=((v/2:Nat):Int):=fH a7;rcases q3 with⟨bk,q3⟩|⟨bk,q3,e⟩
  .simp only[go_sem,q0,q3,q4,H,hm,hd,t,b,cv,hw];refine⟨⟨a8,a8⟩,?_⟩;refine dN (P:=Tryz.prog) (n-1) a7 ⟨k+1,a7,?_⟩;simp only[go_sem,m];subst bk;refine⟨.inr ⟨a7,rfl,?_⟩,λi hi=>?_⟩;.rw[b2];rfl
   grind
  .simp only[go_sem,q0,q3,q4,e,H,hm,hd,t,b,cv,hw];refine⟨by simp[my,fB];omega,⟨a8,a7⟩,?_⟩;refine dN (P:=Tryz.prog) (n-1) a7 ⟨k+1,a7,?_⟩;simp only[go_sem,m];refine⟨.inr ⟨a7,?_⟩,λi hi=>?_⟩;.rw[b2,s6 (by simp[my,fB];omega)];simp[my]
   grind
 .have H:¬(k:Int)<32:=a7;obtain rfl:k=32:=a7;rcases q3 with⟨bk,q3⟩|⟨bk,q3,e⟩;.omega
  rw[s6 (by rw[fB];decide)]at e;simp only[go_sem,q0,q3,q4,show¬((32:Nat):Int)<32 by decide];exact bY (.inl rfl) ⟨c8,e,q⟩):P:=h
def gH(h:P:=by intro r g2 bn S2 K2;simp only[go_sem];refine⟨_,ai.refl _,?_⟩;simp only[go_sem];exact ar.pack S2 (p.trans (dK.down (K1.trans K2) a7)) (by simp only[aD,aE,aJ,Emit.eN,Emit.ey,j7,j8,l5,s9,u7,A3]) (by simp only[aD,aE,aJ,Emit.eN,Emit.ey,j7,j8,l5,s9,u7,A3]) (q:=[]) rfl):P:=h
def gI(h:P:=by refine gU (f:=241) rfl c8 (by simp only[go_sem];exact ki _) c8 ?_;rintro _ rfl;simp only[go_sem];exact⟨_,gq rfl,rfl⟩):P:=h
def gJ(h:P:=by refine⟨_,ai.refl _,?_⟩;simp only[go_sem];exact bS.nil (λi hi=>⟨nu,nu⟩) (q:=[ae 0]) ⟨_,_,rfl,.one (.d _),rfl⟩ ⟨rfl,rfl,rfl⟩):P:=h
def gO(h:P:=by simp only[go_sem]):P:=h
def gR(h:P:=by
 have m:∀l:List Operand,(l.map s.ev).all iq=T->RVs (Imm O β s.obj w) w (l.map s.ev) (l.map a.eval):=by intro l;induction l with|nil=>intro _;rfl;|cons x l ih=>intro h;simp only[s7,D1,l6]at h;simp only[s7,RVs];exact⟨_,_,rfl,ao.data h.1 (V.ev x),ih h.2⟩
 have:=hp.2 (Imm O β s.obj w) w (args.toList.map a.eval) (hG _ _ _ _ A).2 (λ_ h=>h.1) (m _ hd);rw[show (args.toList.map a.eval).toArray=args.map a.eval from H8 b9]at this;refine this.mono λe w'⟨v,r,he,hR,hs,hh,E,hv⟩=>?_;subst he;obtain⟨g1,g2⟩:=V.grow hs hh E;have g3:=g2.trans (Tr.same (St.put_gen s op.dst r) (St.put_obj s op.dst r) rfl);have U:=g1.put c (RV.rep r (RV.mono (λb hb=>⟨xQ V (J:=λb=>Imm O β s.obj w b\/b<=X) (λb h=>h.elim id (yA V (hG _ _ _ _ A))) hb,rfl⟩) r hv));exact⟨U.defers,hn _ β _ w' ⟨r,hR,rfl⟩ U (a6 _ _ _ _ _ _ _ A g3)⟩):P:=h
def gT(h:P:=by
 have:(vs.toArray++Array.replicate (fn.ntmps-vs.toArray.size) undef).getD i undef=undef:=by rw[y9,G2 (by grind)];simp[D7];split<;>rfl
 rw[this];exact du):P:=h
def gW(h:P:=by
 simp only[Oper.upon];have m:∀l:List Operand,(l.map s.ev).all iq=T->RVs (Imm O β s.obj w) w (l.map s.ev) (l.map a.eval):=by intro l;induction l with|nil=>intro _;rfl;|cons x l ih=>intro h;simp only[s7,D1,l6]at h;simp only[s7,RVs];exact⟨_,_,rfl,ao.data h.1 (V.ev x),ih h.2⟩
 have:=hp.2 (Imm O β s.obj w) w (args.toList.map a.eval) (λ_ h=>h.1) (m _ hd);rw[show (args.toList.map a.eval).toArray=args.map a.eval from H8 b9]at this;refine this.mono λe w'⟨v,r,he,hR,hs,hh,E,hv⟩=>?_;subst he;obtain⟨g1,g2⟩:=V.grow hs hh E;refine hn _ β _ w' ⟨r,hR,rfl⟩ (g1.put c (RV.rep r (RV.mono (λb hb=>⟨xQ V (λ_ h=>h) hb,rfl⟩) r hv))) (g2.trans (Tr.same (St.put_gen _ _ _) (St.put_obj _ _ _) rfl))):P:=h
def hx(h:P:=by simp only[B5,D3]at b;subst b;exact dM):P:=h
def hH(h:P:=by
 rw[a1,dF]at a;have t:=Je (fs:=fs) (gr:=gr) (gm:=gm) (szE x2) x2 (l7 _) a7;obtain⟨y,hy⟩:∃y,jz fs x2=y:=⟨_,rfl⟩;rw[hy]at a t;obtain⟨v,w,s,c,p⟩:=x2;have bd:exD (.mk v w s c p)=[.int .i64 v,.int .i64 w,.int .u32 s,.str c,.sl (p.map exD)]:=by simp only[exD,aL]
 simp only[go_sem,q0,az,P,U,h,bn,b6,bd];refine dq aa rfl t (by simp only[go_sem,exV,bd,s7,x7]) (B+57) a7 (λi hi=>nt (ar i a7)) ((E.mono hB fr).mono hB λi hi=>⟨nu,nu⟩) ?_;cases y;.simp only[B5]at a;subst a;exact dM
 .simp only[A7]at a;simp only[go_sem,U,b7];refine ak (m2-1) a7 ⟨n+1,a7,a,?_⟩;simp only[go_sem,q0,q6,G,I,A,az,P,o6];grind):P:=h
def hK(h:P:=by
 rintro _ rfl;cases ht:bU p.f w th;.obtain rfl:=Z (by simp[ht]);exact gO
 simp only[go_sem,q1,q3,o3];refine cD rfl (by simp only[go_sem];exact hL) ?_;rintro _ rfl;cases hl:bU p.f w el;.obtain rfl:=Z (by simp[hl]);exact gO
 simp only[go_sem,q7,hw];refine cj af ⟨U (by grind),?_⟩;simp only[go_sem,q3,o3,q1,q2]):P:=h
def hM(h:P:=by
 rw[Z,dF]at b;have h:=ih (szE e) a7 e (l7 _) a7;obtain⟨y,hy⟩:∃y,jz fs e=y:=⟨_,rfl⟩;rw[hy]at b h;obtain⟨v,w,s,c,p⟩:=e;have hE:exD (.mk v w s c p)=[.int .i64 v,.int .i64 w,.int .u32 s,.str c,.sl (p.map exD)]:=by simp only[exD,aL]
 simp only[go_sem,q0,G,I,A,Q,bk,he,hE];refine dq aa rfl h (by simp only[go_sem,exV,hE,s7,x7]) (B+36) a7 (λi hi=>nt (ar i a7)) ((E.mono hB fr).mono hB λi hi=>⟨nu,nu⟩) ?_;cases y;.rw[B5]at b;subst b;exact dM
 .rw[A7]at b;simp only[go_sem,A,hw];refine ak (m-1) a7 ⟨k+1,a7,b,?_⟩;simp only[go_sem,q0,G,I];grind):P:=h
def hO(h:P:=by subst b;simp only[go_sem,I,A,Q];refine⟨_,ai.refl _,?_⟩;simp only[go_sem];exact bS.nil fr (q:=[bv T]) ⟨_,_,rfl,.one (.d _),rfl⟩ ⟨rfl,rfl,rfl⟩):P:=h
def hP(h:P:=by (try simp only[upd]);grind):P:=h
def hV(h:P:=by intro g2 bn p2 q2 r2;simp only[go_sem];refine cB (λi=>decide (K<=i)) ?_;exact⟨rfl,bs _ rfl _ _ p2⟩):P:=h
def hY(h:P:=by intro r g4 cd J X;simp only[go_sem];refine⟨_,ai.refl _,?_⟩;simp only[go_sem];exact ar.pack J (p.trans (dK.down (K1.trans (K2.trans (L.trans X))) a7)) (by simp only[aD,aE,aJ,Emit.eN,Emit.ey,j7,j8,l5,s9,u7,A3]) (by simp only[aD,aE,aJ,Emit.eN,Emit.ey,j7,j8,l5,s9,u7,A3]) (q:=[]) rfl):P:=h
def h1(h:P:=by
 obtain rfl:X=F:=by
  have:¬el=[]:=λe=>by grind
  rw[<-hz];simp[cP,this]
 simp only[go_sem,j,j6,a6]):P:=h
def h2(h:P:=by
 refine⟨a7,?_⟩;simp only[go_sem,et,cm];refine ak (m-1) a7 ⟨j+1,a7,?_⟩;simp only[go_sem,p0,p6,d',eo,cm,n1,n3,m1,t,bl];refine⟨by grind,ga.to (λi hi=>?_) (λi hi=>⟨?_,?_⟩),λi hi U Z h3 h4 h5=>⟨?_,?_⟩⟩;.exact nt (F5.ar.top i hi)
 .have:i≠B+8:=a7;exact hP
 .have:i≠B+8:=a7;have:i≠B+37:=a7;exact hP
 .exact nt ((O5 i hi U Z h3 h4 h5).1)
 .exact nt ((O5 i hi U Z h3 h4 h5).2)):P:=h
def h9(h:P:=by simp only[go_sem];exact J):P:=h
def ia(h:P:=by refine⟨aY b,E7 (aY b).symm,?_⟩;refine qu (c:=c) (e1:=e1) (E:=L) aa rfl hE h K1 hz.2 t1 (by simp only[go_sem,eG];rfl) loM (by omega:B<=B+232) (λi hi=>by simp only[upd];(repeat first|rw[l4 (by omega)]|rw[h.hi (by omega)]);exact h.free i (by omega)) λd a6 e2 I A2 K2=>?_;simp only[go_sem];refine⟨_,ai.refl _,?_⟩;simp only[go_sem];exact fh (w:=I) (e':=e2) (ad:=a6) (bd:=L) (r:=N) h loM gL ⟨d,a6,e2,I,t2 _ _ _ A2,K2,rfl,rfl,rfl⟩):P:=h
def ib(h:P:=by refine eb hE rfl c8 (B+200) a7 (frB hf a1) b6 (by grind) ?_;intro g2 bn b8 bf;have e2:=y7 ((br hB bf 4).1.trans e1.1) ((br hB bf 4).2.trans e1.2);simp only[go_sem,e2.1,e2.2];refine ed aW (xy [41,59]) rfl c8 c8 (B+200) a7 (frB hf (aH a1 bf)) b8 (by grind) ?_;intro g3 b' cv an;have e3:=y7 ((br hB an 4).1.trans e2.1) ((br hB an 4).2.trans e2.2);simp only[go_sem,e3.1,e3.2];exact⟨_,ai.refl _,eY hB (by grind) (sV (aH (aH a1 bf) an))⟩):P:=h
def ic(h:P:=by intro g2 bn p2 q2 r2;simp only[go_sem];refine cB (λi=>decide (K<=i)) ?_;exact⟨rfl,bs _ _ _ p2⟩):P:=h
def im(h:P:=by
 obtain⟨fn,U,Z,h3⟩:=hp.1;have Z:¬fn.body=N:=by intro h;rw[h]at Z;simp at Z
 have h3:¬fn.name= "runtime.NumGoroutine":=by simpa using h3
 simp[execOp,ho,resolve,Act.eval,b7,Deferred.ofValue,invoke,callFunc,U,Z,h3]):P:=h
def j1(h:P:=by
 obtain⟨fn,U,Z,h3⟩:=hp.1;have Z:¬fn.body=N:=by intro h;rw[h]at Z;simp at Z
 have h3:¬fn.name= "runtime.NumGoroutine":=by simpa using h3
 simp[execOp,ho,resolve,Act.eval,hv,Deferred.ofValue,invoke,callFunc,U,Z,h3]):P:=h
def j3(h:P:=by
 obtain rfl:X=F:=by
  have:¬th=[]:=λe=>by grind
  rw[<-hz];simp[cP,this]
 simp only[go_sem,j,j6,a6,L]):P:=h
def j9(h:P:=by rw[hf]at o;simp only[A5,thD]at o;simp only[go_sem,n1,n2,n3,mV,p,hm,D0,C3,o,a];refine⟨_,ai.refl _,?_⟩;simp only[go_sem];refine bS.two (f:=M) (m:=[bO F]) (λi hi ha hb=>⟨by (try simp only[upd]);grind,by (try simp only[upd]);grind⟩) (by (try simp only[upd]);grind) (by (try simp only[upd]);grind) (by simp only[upd];grind) (by simp[upd]) hd.low KM (q:=[]) rfl ⟨rfl,M,mo.old hf,hd,by grind⟩):P:=h
def kb(h:P:=by
 obtain rfl:X=F:=by rw[<-hz];simp[bV,u]
 simp only[go_sem,j,u]):P:=h
def km(h:P:=by
 simp only[go_sem,j,u,i,H];by_cases t:(z kids:Int)=2;case neg=>
  obtain rfl:X=F:=by have:¬z kids=2:=a7;rw[<-hz];simp[bV,this]
  simp only[go_sem,j6,t]
 simp only[go_sem,j6,t,b5];refine cD rfl (by simp only[go_sem,b5];exact J) ?_;rintro _ rfl;obtain rfl:X=bp (q+1) kids:=by have:z kids=2:=a7;rw[<-hz];simp[bV,aq,bl,this,H,i,u]
 exact gO):P:=h
def kn(h:P:=by
 have hw:=ah (k:=k) a7;by_cases af:k<z kids;case neg=>have Q:¬(k:Int)<(z kids:Int):=a7;obtain rfl:k=z kids:=a7;rw[E9,dF]at b;exact hO
 have Q:(k:Int)<(z kids:Int):=a7;have bk:(0:Int)<=(k:Int):=a7;obtain⟨e,he⟩:=getq af;have n:=Src.vu (l8 he);have Z:kids.drop k=e::kids.drop (k+1):=by rw[B8 af,(l9.1 he).2]
 exact hM):P:=h
def kp(h:P:=by
 refine aF (λm K=>∃k:Nat,m+k=z kids/\dF fs (kids.drop k)=X/\K.f 0=aj 1012 gr 0/\K.f 25=.one (aw (kids.map exD))/\K.f 26=ae (z kids)/\K.f 27=ae k/\(∀j,j<B->K.gen j=g j/\K.obj j=ob j)/\(∀j,B+36<=j->K.obj j=N)) (z kids) ?_ ?_;.refine⟨0,rfl,by grind,?_⟩;simp only[go_sem];grind
 rintro m f g1 av⟨k,hk,b,q0,G,I,A,fr,ar⟩;simp only at q0 G I A fr ar;exact kn):P:=h
def kt(h:P:=by
 rintro _ g' Y⟨rfl,rfl⟩;simp only[go_sem,y,hw];refine ak (m-1) a7 ⟨k+1,a7,?_⟩;simp only[go_sem,q1,q3,q5,q6,A,w,e1.1,c.1,e5.1,e6.1,e1.2,c.2];refine⟨?_,?_,⟨M,rfl,W⟩,λj hj=>?_⟩;.rw[oJ _ he,<-G1,h5,mN,L];rfl
 .rw[oJ _ he,h6];rfl
 ·(try simp only[upd]);(repeat rw[l4 (by omega)]);rw[(fr j (.inr a7)).2];exact hP):P:=h
def k0(h:P:=by
 obtain rfl:X=F:=by rw[<-hz];simp[bV,i]
 simp only[go_sem,j,u,i]):P:=h
def k6(h:P:=by simp only[x8,x6,w8,w7]at u;subst u;simp only[go_sem,k3,k8,n,hc];exact r9):P:=h
def k9(h:P:=by simp only[go_sem,hg,t];refine cY rfl (by simp only[go_sem];exact u _ _ (U.same (λi hi=>by (try simp only[upd]);grind) (λi hi=>by (try simp only[upd]);grind)) x) ?_;exact gD):P:=h
def la(h:P:=by
 refine dq aa rfl h c8 (B+20) a7 (λi hi=>nt (hf i a7)) (E.mono hB λi hi=>⟨nu,nu⟩) ?_;simp only[go_sem];cases dL fs 1 kids;.simp only[go_sem];exact gJ
 .simp only[go_sem];refine⟨_,ai.refl _,?_⟩;simp only[go_sem];exact bS.nil (λi hi=>⟨nu,nu⟩) (q:=[ae 1]) ⟨_,_,rfl,.one (.d _),rfl⟩ ⟨rfl,rfl,rfl⟩):P:=h
def ld(h:P:=by simp only[x8,x6,w8,w7]at u;subst u;simp only[go_sem,k3,n,hc];exact r9):P:=h
def lk(h:P:=by refine⟨_,ai.refl _,?_⟩;simp only[go_sem];exact bS.nil (λi hi=>⟨nt ((fr i hi).1),nt ((fr i hi).2)⟩) (q:=[bv F]) ⟨_,_,rfl,.one (.d _),rfl⟩ ⟨rfl,rfl,rfl⟩):P:=h
def lv(h:P:=by
 obtain⟨v,U,Z⟩:=u _ _ hv i x I;have af:i<z vs:=(l9.1 U).1;have:(vs.toArray++Array.replicate (fn.ntmps-vs.toArray.size) undef).getD i undef=v:=by rw[y9,F2 a7];simp[U]
 rw[this];simp only[B6];exact RV.rep x (RV.mono (λb hb=>⟨⟨hJ b hb,λ_=>hb,λid a ho=>by cases ho⟩,rfl⟩) x Z)):P:=h
def l3(h:P:=by have bd:(j:Int)<(z out:Int):=a7;have cx:(0:Int)<=(j:Int):=a7;obtain⟨v,hv⟩:=getq B;have dc:=W v (l8 hv);simp only[go_sem,G,I,K,U,bd,cx,hv,cm,j6];rw[B8 B,Emit.uO,show out[j]=v from(l9.1 hv).2]at O;refine fD (m-1) a7 ⟨j+1,max V v,a7,O,a7,a7,?_⟩;simp only[go_sem,f1,f2,f3,p,q,f4,G,I,o1,o2,o3,u,x,r]):P:=h
def mc(h:P:=by
 have bs:∀i,i<ops.size->b.getD i T=T:=λi hi=>by
  have cf:F∉b.toList:=λh=>by grind
  rw[y9,B9 a7];grind
 have b7:Region.ready .any ops b=[]:=by unfold Region.ready;rw[M3];intro i hi;simp[bs i (E0.1 hi)]
 exact⟨b7,hQ _ s β a w hI V A ⟨b,rfl,az,b7⟩⟩):P:=h
def mF(h:P:=by have e:g1 (B+3)=l:=(K1.gen (B+3) a7 a7 a7).trans (by simp only[upd];rfl);simp only[go_sem,c,e];refine bJ aa rfl (ql A 1 0 a8) (B+10) G D H u _ _ c8 b0 o (by first|exact hl|((try simp only[aD,aE,aJ,Emit.eN,Emit.ey,j7,j8,l5]);omega)) (by first|exact hh|((try simp only[aD,aE,aJ,Emit.eN,Emit.ey,j7,j8,l5,u7]);omega)) ?_;exact gH):P:=h
def mM(h:P:=by exact⟨X,Y,U,λw' bc=>by simp[execOp,Z w' bc],h3⟩):P:=h
def mS(h:P:=by
 obtain rfl:X=F:=by have:¬z e=1:=a7;rw[<-hz];simp[cP,this]
 simp only[go_sem,j6,hn]):P:=h
def nf(h:P:=by intro r g1 av o K1;simp only[go_sem];refine⟨_,ai.refl _,?_⟩;simp only[go_sem];exact ar.pack o (p.trans (dK.down K1 a7)) rfl rfl (q:=[]) rfl):P:=h
def nn(h:P:=by refine⟨_,ai.refl _,?_⟩;simp only[go_sem];exact bS.nil (λi hi=>⟨nu,nu⟩) (q:=[ae 2]) ⟨_,_,rfl,.one (.d _),rfl⟩ ⟨rfl,rfl,rfl⟩):P:=h
def ns(h:P:=by refine⟨y,Y,q1,λw' bc=>?_,q3⟩;have q2:=q2 w' bc;simp only[Sem.run_pure,Result.ok.injEq,P6]at q2;subst q2;have hf:(Instr.findKey n (dV Q) []).run P w'=.ok N w':=MapKept.run_findKey hk rfl;simp[Instr.lookup,run_underlying L,E,hf,b]):P:=h
def n8(h:P:=by refine⟨y,Y,q1,λw' bc=>?_,q3⟩;have q2:=q2 w' bc;rw[g2]at q2;simp only[Sem.run_pure,Result.ok.injEq,P6]at q2;subst q2;simp[Instr.lookup,run_underlying L,MapKept.run_getObj_map (bc.cells A),E,MapKept.run_findKey hk g1,b]):P:=h
def n9(h:P:=by refine cH A6 ?_;intro K' a';simp only[go_sem];refine a' _ ?_;clear a' K';simp only[go_sem,A,hw];refine ak (m-1) a7 ⟨k+1,a7,?_⟩;simp only[go_sem,q2,G,I,o2];refine⟨by rw[Bh he],λj hj=>⟨nt ((fr j hj).1),nt ((fr j hj).2)⟩,λj hj=>nt (ar j hj)⟩):P:=h
def oc(h:P:=by
 subst ch;obtain rfl:X=T:=by rw[<-hz];rfl
 simp only[go_sem,l5,x7];refine aF (λm K=>m=0/\K.f 14=.one (aw [])/\K.f 15=ae 0/\K.f 16=ae 0) 0 ?_ ?_;.exact gO
 rintro m f g1 av⟨rfl,G,b,E⟩;simp only at G b E;simp only[go_sem,G,b,E]):P:=h
def oj(h:P:=by exact wpIn_mono (hR al β a ds w hc V A) (λe W w'⟨s',E,a0,ad,h0,U,Z,h3⟩=>⟨s',E,a0,ad,h0,U.imp (J _ _) (λh=>h),Z,h3⟩)):P:=h
def oo(h:P:=by exact .sl (sz:=sz) (λ_ _=>undef) b9 (λh=>absurd rfl h) (λ_ h=>by cases h) (λ_ _ h=>by cases h) (λ_ _ h=>by cases h)):P:=h
def ov(h:P:=by simp only[go_sem,hg,t];exact⟨a7,bY (.inl rfl) (FrW.from (U.done (m':={m with steps:=m.steps+1,fin:=8}) t (λi hi=>by (try simp only[upd]);grind) (λi hi=>by (try simp only[upd]);grind) (by rfl) rfl rfl λ_ _ _ V=>V.setFin 8) ar)⟩):P:=h
def oy(h:P:=by have hi:¬(e1:Int)=0:=a7;simp only[go_sem,al,P,rnM,hi];refine⟨_,ai.refl _,?_⟩;simp only[go_sem];exact fh (w:=c) (e':=e1) (ad:=H) (bd:=L) (r:=N) h loM jg ⟨L,N,H,e1,c,gy.mke (by rw[<-V,A1.en he];rfl) he,K1,rfl,rfl,rfl⟩):P:=h
def oC(h:P:=by intro g1 av b6 a1;obtain⟨a,ha,ho⟩:=b6.obj;simp only[go_sem,b6.gen,ho];refine oN (H:=H) aa rfl [10] c8 b6 (by grind) ?_;intro g2 bn b8 bf;simp only[go_sem];refine⟨_,ai.refl _,?_⟩;refine eY hB (by grind) λi _=>aH a1 bf i):P:=h
def oL(h:P:=by
 exfalso;obtain⟨e,he,ho,P⟩:=B i hi;obtain⟨e',cc,a1,ek⟩:=B j hj;simp only[dst,ho,a1,I9]at U Z;rcases(J i e hi ho P).2.1 j e'.o hj a7 a1 with h|h;.rw[h]at Z;cases Z
 .exact h (by rw[U,Z])):P:=h
def oR(h:P:=by
 refine runM (s:=⟨_,_,_⟩) (G:=G) (e:=0) (q:=N) (bd:=L) h rfl ⟨rfl,rfl,rfl⟩ λi hi=>?_;have hk:∀k,(i=B+k)=False:=λk=>by grind
 have:=h.same i;simp only[upd,hk,B1]at this|-;exact this):P:=h
def o8(h:P:=by simp only[go_sem,hg,t,f,al,e];refine⟨a7,?_⟩;refine cY rfl (by simp only[go_sem];exact K _ _ (U.same (λi hi=>by (try simp only[upd]);grind) (λi hi=>by (try simp only[upd]);grind)) F) ?_;exact gD):P:=h
def p8(h:P:=by simp only[go_sem,hg,t,f,al,e];refine⟨a7,?_⟩;refine cY rfl (by simp only[go_sem];exact K _ _ (U.same (λi hi=>by (try simp only[upd]);grind) (λi hi=>by (try simp only[upd]);grind)) T) ?_;exact gD):P:=h
def p9(h:P:=by exact gY b5 ⟨av.defers,hn _ β _ w rfl av (a6 _ _ _ _ _ _ _ A (Tr.same (St.put_gen _ _ _) (St.put_obj _ _ _) rfl))⟩):P:=h
def qc(h:P:=by
 by_cases u:op=0;case neg=>exact kb
 by_cases i:num=0;case neg=>exact k0
 by_cases H:name=[];case neg=>
  obtain rfl:X=F:=by rw[<-hz];simp[bV,aq,H]
  simp only[go_sem,j,u,i,H]
 exact km):P:=h
def qk(h:P:=by have Q:¬(k:Int)<(z l:Int):=a7;rw[y8 a7]at hc;obtain rfl:X=T:=hc.symm;simp only[go_sem,q1,q5,Q,j6]):P:=h
def qo(h:P:=by refine⟨_,ai.refl _,?_⟩;simp only[go_sem,n1,n2];exact bS.nil (λi hi=>⟨by (try simp only[upd]);grind,by (try simp only[upd]);grind⟩) (q:=[wh (S t)]) ⟨_,_,rfl,KL (thD t),rfl⟩ ⟨rfl,rfl,rfl⟩):P:=h
def q9(h:P:=by
 obtain rfl:X=F:=by grind
 exact gO):P:=h
def ra(h:P:=by
 have h:(n:Int)<(z es:Int):=a7;have bn:(0:Int)<=(n:Int):=a7;obtain⟨x2,b6⟩:=getq bs;have b3:=Src.vu (l8 b6);have a1:es.drop n=x2::es.drop (n+1):=by rw[B8 bs,(l9.1 b6).2]
 exact hH):P:=h
def rb(h:P:=by intro g1 av p1 q1 r1;simp only[go_sem];refine kD (λi=>decide (K<=i)) ?_;exact⟨rfl,p1.fin J⟩):P:=h
def r5(h:P:=by
 have hv:=V.f t;rcases ht with⟨off,ht⟩|⟨sz,off,len,ht⟩;.rw[ht]at hv;simp only[ao,aQ]at hv;grind
 .rw[ht]at hv;simp only[ao]at hv;exact(iV hv rfl (by grind)).spot ad H):P:=h
def r8(h:P:=by have U:=Src.ZJ x.word x.body;have Z:=Src.UA (λx:Src.CFn=>Src.sW x.body) I;have h3:((ab p).f.map λx=>Src.sW x.body).sum=(p.f.map λf=>Src.aI f.body).sum:=Src.FD _ _ _;unfold Emit.cT;omega):P:=h
def sa(h:P:=by simp only[s9,z6,A3]at this|-;exact this):P:=h
def sb(h:P:=by exact⟨av.defers,v,U,v,r,rfl,Z,ht.size,λb hb=>ht.old b hb,ht.os,h3⟩):P:=h
def sc(h:P:=by rw[hq]at hc;simp only[A5,w7]at hc;subst hc;refine⟨_,rfl,?_⟩;simp only[aQ];exact cX.of_plain (by have:=bf.plain;grind)):P:=h
def sg(h:P:=by refine⟨h.1,h0.2.1,λhg ho=>?_⟩;obtain⟨l1,l2,m⟩:=hl id ho;rw[<-l2];exact h.2.2 a7 m):P:=h
def sn(h:P:=by exact⟨_,fy (k:=0) (v:=0) (e:=3),rfl⟩):P:=h
def so(h:P:=by refine⟨_,ai.refl _,?_⟩;simp only[go_sem];exact ar.pack o (K1.down a7) rfl rfl (q:=[]) rfl):P:=h
def sr(h:P:=by
 rw[Y i]at bo;refine⟨bo,rfl,λW b4 c1 c4 cz U=>?_⟩;by_cases hb:W.block=ad.block;.grind
 .rw[heap_setCells_other _ _ _ _ _ hb]at U;grind):P:=h
def sT(h:P:=by rintro _ rfl;exact h9):P:=h
def s8(h:P:=by rintro _ rfl;unfold wu iX;simp only[go_sem];exact⟨_,xV,rfl⟩):P:=h
def tb(h:P:=by intro g3 b' cv an;have e3:=y7 ((br hB an 3).1.trans e2.1) ((br hB an 3).2.trans e2.2);simp only[go_sem,e3.1,e3.2];exact⟨_,ai.refl _,eY hB (by grind) (sV (aH (aH a1 bf) an))⟩):P:=h
def ti(h:P:=by rw[s6 (l7 _),hL]at o5 W;simp only[go_sem,e,a,Q];refine aZ c9 ?_;simp only[go_sem,q4,q5,o4,o5];refine⟨_,ai.refl _,?_⟩;simp only[go_sem];exact⟨rfl,⟨M,oM,W,q⟩,fr⟩):P:=h
def tj(h:P:=by refine⟨_,ai.refl _,?_⟩;simp only[go_sem];exact wD (vk) rfl):P:=h
def ts(h:P:=by
 refine⟨0,0,rfl,rfl,C7 _,a8,?_⟩;simp only[go_sem,f1,f2,f3,p,q,f4,o1,o2];refine⟨?_,?_,?_⟩;.rw[s6 a7,zj];rfl
 .rw[s6 a7,nS];rfl
 .rw[s6 a7,nS];rfl):P:=h
def tz(h:P:=by obtain⟨R,hR,J⟩:=h;refine⟨R,λal β a ds w V A c next Q hn I=>?_,J⟩;obtain⟨l,r1,t1⟩:=hv O al β a w V;exact hR al l a ds w r1 (a6 _ _ _ _ _ _ _ A t1) c next Q hn I):P:=h
def tI(h:P:=by
 have U:i1≠b:=λe=>by grind
 have Z:G≠b:=λe=>by grind
 simp only[E,l4 U]at b1;simp only[E,l4 Z]at b2;exact V.inj i1 G a1 a2 (n i1 U l1) (n G Z l2) b1 b2 hb):P:=h
def uo(h:P:=by refine⟨_,ai.refl _,?_⟩;simp only[go_sem,n1,n2];exact bS.nil (λi hi=>⟨nu,nu⟩) (q:=[.agg ((plD t).map .d)]) ⟨_,_,rfl,KL (plD t),rfl⟩ ⟨rfl,rfl,rfl⟩):P:=h
def u0(h:P:=by simp only[Oper.upon];have:=hp.2 O al β a s.f w (args.toList.map a.eval) V (kP V _);rw[show (args.toList.map a.eval).toArray=args.map a.eval from H8 b9]at this;exact dT):P:=h
def u1(h:P:=by exact wp_mono (hR O al β a w hc V) (λe W w'⟨s',E,U,Z,h3⟩=>⟨s',E,J _ _ U,Z,h3⟩)):P:=h
def u2(h:P:=by refine aZ c9 ?_;simp only[go_sem,q6,q7,e,G,u24,u23,x,A,cz];refine⟨l7 _,?_⟩;rw[s6 a7,OU];simp only[go_sem,Br,q6,q7,e,u24,x,A];exact⟨_,Ju,rfl⟩):P:=h
def u6(h:P:=by simp only[go_sem]at J|-;refine sG aa rfl hF c8 (B:=B+232) (λi hi=>by simp only[upd];(repeat rw[l4 (by omega)]);exact h.free i (by omega)) ?_;exact h9):P:=h
def vr(h:P:=by obtain⟨j,n⟩:=p;rw[hg]at ca;obtain⟨d,hj,hb⟩:=ca;have hy:=V.yielded hj hb;simp[Region.wanted,hg,hy]):P:=h
def wa(h:P:=by obtain⟨k,t,v⟩:=y;rw[zB];simp only[go_sem];exact⟨_,fy (e:=0),rfl⟩):P:=h
def wk(h:P:=by refine⟨_,ai.refl _,?_⟩;simp only[go_sem];exact bS.use (λi hi h5 h6=>⟨(fr i hi).1,(fr i hi).2 h5 h6⟩) (fr 5 a7).1 (fr 6 a7).1 o5 o6 (q:=[]) rfl):P:=h
def w5(h:P:=by
 refine⟨0,rfl,⟨?_,?_,?_,?_,?_,?_,?_⟩,?_⟩<;>(simp only[go_sem]);.rfl
 .rfl
 .grind
 .exact⟨[],rfl,λs=>rfl,λc hc=>by cases hc⟩):P:=h
def xc(h:P:=by subst h hn;exact⟨rfl,⟨jR 0 1 rfl a8 a7 b9 (by grind),trivial⟩,λh=>h.1⟩):P:=h
def x1(h:P:=by
 obtain rfl:X=F:=by rw[<-hz];simp[cP,aq,H,fG]
 simp only[go_sem,j6,j,a6,L,H]):P:=h
def x3(h:P:=by
 simp only[St.newC,upd];split;.rename_i he;subst he;exact M1 (vB _ _)
 simp):P:=h
def x5(h:P:=by unfold Src.fR at this;simp at this;omega):P:=h
def ys(h:P:=by subst hl;refine(Go.Proofs.Any.strings_Join_none L X _ _ _ w).mono λe w'⟨he,hw⟩=>?_;subst hw;exact fin he rfl (Below.refl _ _)):P:=h
def y1(h:P:=by exact⟨_,⟨_,⟨_,_,rfl,mn .nsl,_,_,rfl,mn _,_,_,rfl,mn _,rfl⟩,rfl⟩,rfl⟩):P:=h
def y2(h:P:=by
 obtain rfl:X=F:=by rw[<-hz];simp[bV,aq,H,fG]
 simp only[go_sem,j,u,i,H]):P:=h
def zs(h:P:=by simp only[ao,aQ];exact⟨rfl,hv.2.1,λ_ _=>⟨ad,H,bn,by grind⟩⟩):P:=h
def zv(h:P:=by have:=Ac (b2:=pcF) (w:=λg=>z g.p+z g.l+aI g.body+6) (k:=6) (l:=fs) (λa ha=>by have:=qC (bs a (by simp[ha])).1;omega) hg;omega):P:=h
def z8(h:P:=by exact⟨y,Y,U,λw' bc=>by simp[execOp,Z w' bc],h3⟩):P:=h
def Bc(h:P:=by cases hc;simp only[rnM,A0,A9,D8]at k;rcases k with rfl|rfl|rfl|rfl|rfl|rfl|rfl|rfl|rfl|rfl|rfl<;>first|trivial|(show _<B;omega)):P:=h
def B2(h:P:=by exact nq hT rest hp g h (λs2 bf a2 w2 k1 k2 k3=>hQ _ _ _ _ k1 k2 (Tr.trans (Tr.same (by rw[St.put_gen]) (by rw[St.put_obj]) rfl) k3))):P:=h
def K0(h:P:=by simp only[go_sem,e1,e2,an,hl];refine cD rfl (by simp only[go_sem];exact h3 F) ?_;rintro _ rfl;simp only[go_sem,hl]):P:=h
def K3(h:P:=by simp only[l6,aq,↓reduceIte]at d;refine⟨bl0,jd d.1.2 (da a8),bl0,bw a8,(ej _ _ _).2 ⟨okJ J (da a8),bl0,bw a8,trivial⟩⟩):P:=h
def K4(h:P:=by simp only[go_sem,q1,o1]):P:=h
def K6(h:P:=by simp only[go_sem,e1,e2,an,hl];refine cD rfl (by simp only[go_sem];exact h3 T) ?_;rintro _ rfl;simp only[go_sem,hl]):P:=h
def Lm(h:P:=by
 unfold kS;split
 .rename_i hm;simp only[A0,A9,D8]at hm;rcases hm with rfl|rfl;.exact hP
  omega
 .rfl):P:=h
def Lw(h:P:=by
 rcases A1.then A2 with⟨h0,_⟩|⟨_,⟨U,Z,_⟩|⟨U,_⟩⟩;.omega
 .rw[<-V,U];simp only[Rs.bind,Z]
 .rw[<-V,U];rfl):P:=h
def Mi(h:P:=by refine⟨_,ai.refl _,?_⟩;simp only[go_sem];exact zz h loM gL ⟨v,G,0,_,fP.mk V.symm,h.okm,rfl,rfl,rfl⟩):P:=h
def Mo(h:P:=by exact jq hT c rest t g hp.2 h (λs2 a2 k1 k2 k3=>hQ _ _ k1 k2 (Tr.trans (Tr.same (by rw[St.put_gen]) (by rw[St.put_obj]) rfl) k3))):P:=h
def R0(h:P:=by exact jY hT c rest t g hp.2 h (λs2 a2 k1 k2 k3=>hQ _ _ k1 k2 (Tr.trans (Tr.same (by rw[St.put_gen]) (by rw[St.put_obj]) rfl) k3))):P:=h
def R1(h:P:=by
 simp only[upd,y9,M6];by_cases hj:i=j;.grind
 .grind):P:=h
def R2(h:P:=by subst he;obtain⟨k1,k2⟩:=kC V c hv U Z h3;exact⟨k1.defers,hn _ E _ w' ⟨r,g',Y,hR,rfl⟩ k1 (a6 _ _ _ _ _ _ _ A k2)⟩):P:=h
def R3(h:P:=by have:=sh bo b7 j e2.o b2 (λe' cc cz=>b7 j _ x b2 e' cc cz) i h;rw[hL]at this;exact absurd this.1 b9):P:=h
def S1(h:P:=by refine⟨0,rfl,?_⟩;simp only[St.grab];simp only[go_sem];exact⟨rfl,λj hj=>⟨nu,nu⟩,λj hj=>nt (hB j a7)⟩):P:=h
def S4(h:P:=by rw[zC];simp only[go_sem];exact⟨_,fy (k:=0) (v:=0),rfl⟩):P:=h
def S5(h:P:=by simp only[l6]at this;have Z:=this.1.1;simp only at cb;rw[<-cb,fG]at Z;cases Z):P:=h
def S6(h:P:=by refine⟨⟨by rw[setCells_size];exact hb.1,hb.2.1,λi W bo=>hb.2.2 i W (by grind)⟩,heap_setCells_other _ _ _ _ _ bz⟩):P:=h
def U9(h:P:=by have:¬kids=[]:=λe=>t (by grind);rw[<-hz];simp[bV,this]):P:=h
def V0(h:P:=by rw[e1];exact⟨a7,⟨a8,a7⟩,J⟩):P:=h
def V1(h:P:=by exact jf h (λw=>by simp[Builtin.len_,run_underlying L,goInt])):P:=h
def V2(h:P:=by have Q:¬(k:Int)<(z l:Int):=a7;rw[y8 a7]at hc;obtain rfl:X=T:=hc.symm;simp only[go_sem,q0,q5,Q,j6]):P:=h
def V3(h:P:=by rw[s5 hw]at h;rw[s5 (by simp[Region.wanted,hg,hy,hw])];exact u av (Tr.same rfl rfl rfl) h):P:=h
def V4(h:P:=by
 obtain⟨k,rfl⟩:∃k,op=k+1:=⟨op-1,a7⟩;have:z names<=k:=by show 27<=k;omega
 simp[nameOf,this]):P:=h
def V5(h:P:=by exact⟨by simp[Am.upd,n1,hg],cb,⟨a,ha,by simp[Am.upd,n1,n2,ho]⟩,by simp[Am.upd,n2,b1],by simp[Am.upd,n2,hi],bz⟩):P:=h
def V6(h:P:=by rw[H]at b4;obtain⟨rfl,rfl⟩:=b4;have:es=[]:=v7 hlen;subst this;exact .sl0):P:=h
def V7(h:P:=by intro g1 av b6 a1;have e1:=br hB a1 3;simp only[go_sem,e1.1,e1.2];exact⟨_,ai.refl _,eY hB a7 (sV a1)⟩):P:=h
def V8(h:P:=by refine cD rfl (by simp only[go_sem];exact hT) ?_;exact hK):P:=h
def V9(h:P:=by
 obtain rfl:X=F:=by have:¬z kids=1:=a7;rw[<-hz];simp[bV,this]
 simp only[go_sem,j6,t]):P:=h
def Wc(h:P:=by obtain⟨n,hn⟩:∃n,Op.maxDepth=n+1:=⟨_,rfl⟩;unfold Op.equal;rw[hn,Op.equalIn];simp[run_underlying L]):P:=h
def Wd(h:P:=by
 obtain rfl:X=F:=by rw[<-hz];simp[bV,aq,an]
 exact gO):P:=h
def Wf(h:P:=by
 obtain rfl:X=F:=by rw[<-hz];simp[cP,aq,an]
 exact gO):P:=h
def Wj(h:P:=by exact jW hT rest t g hp.2 h (λs2 a2 k1 k2 k3 k4=>hQ _ _ k1 k2 (by rw[k3,St.put_gen]) (by rw[k4,St.put_obj]))):P:=h
def W0(h:P:=by rw[hg]at h;simp only at h;rw[s5 (by simp[Region.wanted,hg])];exact u V Tr.refl h):P:=h
def W1(h:P:=by refine⟨0,rfl,b9,?_⟩;exact gO):P:=h
def W2(h:P:=by obtain⟨cells,hc⟩:=J4.1 hi;have:=V.obj i cells hc;rw[b4]at this;exact this.block.2):P:=h
def W3(h:P:=by exact fP.mke (by rw[<-V,A1.en he];rfl) he):P:=h
def W4(h:P:=by simp only[go_sem]at J|-;refine ja (k:=bx K') rfl (by simp only[go_sem];exact Z) c8 ?_;exact sT):P:=h
def W5(h:P:=by
 have b5:z args<=i:=by simpa using I
 exact gT):P:=h
def W6(h:P:=by exact this.imp λv ad this=>by exact⟨this.1,this.2.1,this.2.2.1,by have:=this.2.2.2;grind⟩):P:=h
def W7(h:P:=by rw[N2 (C5 h)]at hk;obtain⟨v,hv,X⟩:=g5 k c hk;exact⟨v,hv,X.keep q⟩):P:=h
def W8(h:P:=by
 have b5:z xs<=i:=by simpa using I
 exact gT):P:=h
def W9(h:P:=by exact⟨_,_,rfl,.inl rfl⟩):P:=h
def X1(h:P:=by have U:i≠G:=λe=>hn (by simp[e]);have Z:i≠D:=λe=>hn (by simp[e]);exact⟨nu,nu⟩):P:=h
def X2(h:P:=by obtain⟨u,L,f⟩:=bs _ _ (hc m x I);exact⟨u,by rw[fM A,D4];exact L,ih m x I f⟩):P:=h
def X6(h:P:=by rw[y9,B9 a7]at J;rw[B9 a7];simpa using J):P:=h
def X7(h:P:=by simp only[go_sem,q0]):P:=h
def X8(h:P:=by
 have h3:¬fnD.name= "runtime.NumGoroutine":=by simpa using k
 simp[invoke,callFunc,hf,hb,h3]):P:=h
def X9(h:P:=by exact this.imp λv ad this=>by exact⟨this.1,this.2.1,this.2.2.1,C4 a4 this.2.2.2⟩):P:=h
def Y0(h:P:=by rintro _ rfl;simp only[go_sem,q7,hw];refine cj af ⟨_,hc,a7,?_⟩;simp only[go_sem,q0,q2]):P:=h
def Y1(h:P:=by
 by_cases p:i=b;.grind
 .simp only[E,l4 p]at H;exact I.2.2 i W (n i p hi) H):P:=h
def Y2(h:P:=by rw[a]at b;exact hx):P:=h
def Y3(h:P:=by
 refine⟨λj x I=>h j x ?_,λj x I=>?_⟩;.grind
 .rw[D4];refine h _ x ?_;grind):P:=h
def Y4(h:P:=by simp only[l6,v8]at d;rw[v7 d.2];simp[aO,tks]):P:=h
def Y5(h:P:=by simp only[go_sem]at J|-;refine dm rfl (by simp only[go_sem];exact hF) ?_;exact sT):P:=h
def Y6(h:P:=by obtain rfl:=g2 (by grind);exact gO):P:=h
def Y7(h:P:=by exact⟨s',E,a0,ad,rfl,.inr ⟨ch,rfl,U⟩,Z,h3⟩):P:=h
def Y8(h:P:=by simp only[upd];rw[s5 trivial];simp only[bZ.cells,bZ.at,hQ.s,hQ.ds,hQ.bk,hQ.b,hQ.e,hQ.p,ksD]):P:=h
def Y9(h:P:=by exact gY (by simp[execOp,Z]) (hn _ _ _ _ U h3 h4)):P:=h
def Za(h:P:=by simp only[go_sem];simp):P:=h
def Zf(h:P:=by simp only[go_sem,e2.1,e2.2];exact⟨_,ai.refl _,eY hB (by grind) (sV (aH a1 bf))⟩):P:=h
def Zg(h:P:=by simp only[upd];grind):P:=h
def Zh(h:P:=by intro g1 av b6 a1;have e1:=br hB a1 4;simp only[go_sem,e1.1,e1.2];exact ib):P:=h
def Zi(h:P:=by rw[s5 h];have hi:¬(e:Int)=0:=a7;simp only[go_sem,hi];exact⟨_,rL,rfl⟩):P:=h
def Zn(h:P:=by subst h hn;exact⟨rfl,⟨jR 1 1 rfl a8 a7 b9 (by grind),trivial⟩,λh=>h.1⟩):P:=h
def Zx(h:P:=by cases a.testBit i<;>cases b.testBit i<;>rfl):P:=h
def Zz(h:P:=by simp only[SSM,C6,A0,A9,D8,E6,E0]at hi;omega):P:=h
def ZE(h:P:=by simp only[go_sem,q0,q1,q5,al,P,o5]):P:=h
def ZN(h:P:=by grind):P:=h
def Z0(h:P:=by simp only[go_sem,n1,n2]):P:=h
def Z1(h:P:=by first|exact hl|((try simp only[aD,aE,aJ,Emit.eN,Emit.ey,j7,j8,l5]);omega)):P:=h
def Z2(h:P:=by first|exact hh|((try simp only[aD,aE,aJ,Emit.eN,Emit.ey,j7,j8,l5,u7]);omega)):P:=h
def Z3(h:P:=by simp only[go_sem,n1,n2];all_goals rfl):P:=h
def Z4(h:P:=by intro _ _ _ _ J;simp only[go_sem]at J|-;exact J):P:=h
def Z5(h:P:=by intro i hi;simp only[upd];(repeat rw[l4 (by omega)]);exact h.free i (by omega)):P:=h
def Z6(h:P:=by intro i hi;(try simp only[upd]);grind):P:=h
def Z7(h:P:=by intro m h;simp_all):P:=h
def Z8(h:P:=by intro _ _ _ _ J;simp only[go_sem,n1,n2,q3,o3]at J|-;exact J):P:=h
def Z9(h:P:=by simp only[go_sem,n1,n2,di]):P:=h
def aas(h:P:=by intro i hi;(try simp only[upd]);grind):P:=h
def aa0(h:P:=by first|(simp[upd];done)|(simp only[upd];exact nt (L))):P:=h
def aa1(h:P:=by simp only[go_sem,n1,n2,hg,q0];all_goals rfl):P:=h
def aa2(h:P:=by simp only[go_sem,n1,n2,ho]):P:=h
def aa3(h:P:=by intro i hi;simp only[upd];(repeat first|rw[l4 (by omega)]|rw[h.hi (by omega)]);exact h.free i (by omega)):P:=h
def aa4(h:P:=by simp only[upd];rfl):P:=h
def aa5(h:P:=by simp only[go_sem];exact dI ho name F):P:=h
def aa6(h:P:=by intro m h;rw[<-hp,show Src.cq=[59]from rfl,h];rfl):P:=h
def aa7(h:P:=by intro _ _ _ _ J;simp only[go_sem,bm]at J|-;exact J):P:=h
def aa8(h:P:=by simp only[go_sem,eG];rfl):P:=h
def aa9(h:P:=by simp only[go_sem,n1,n2,hg];all_goals rfl):P:=h
def abb(h:P:=by simp_all):P:=h
def abc(h:P:=by intro _ h;cases h):P:=h
def abd(h:P:=by simp[Region.wanted,hg,hy,hw]):P:=h
def abe(h:P:=by simp only[aE,j7,j8,l5];omega):P:=h
def abf(h:P:=by rw[bq h];decide):P:=h
def abg(h:P:=by simp only[go_sem];exact dI ho name T):P:=h
def abh(h:P:=by simp[ho]):P:=h
def abi(h:P:=by rw[bq h];rfl):P:=h
def abj(h:P:=by simp only[go_sem,n1,n2,hg,q0]):P:=h
def abk(h:P:=by rw[hd];rfl):P:=h
def abl(h:P:=by simp only[go_sem];exact kY name):P:=h
def abm(h:P:=by simp only[aE,u7,l5];omega):P:=h
def abn(h:P:=by intro _ _ _ _ J;simp only[go_sem,q0]at J|-;exact J):P:=h
def abo(h:P:=by intro _ _ y hy;simp at hy;subst hy;rfl):P:=h
def abp(h:P:=by intro m h;rw[<-hp,show Src.bP=[41]from rfl,h];rfl):P:=h
def abq(h:P:=by simp only[szE,aO];omega):P:=h
def abr(h:P:=by simp only[go_sem];rw[<-b5]):P:=h
def abt(h:P:=by simp only[go_sem];exact hT):P:=h
def abu(h:P:=by simp only[go_sem];exact hL):P:=h
def abv(h:P:=by simp only[go_sem];exact hN):P:=h
def abw(h:P:=by simp only[go_sem];exact hD):P:=h
def abx(h:P:=by simp only[St.claimAt];simp only[go_sem,n1,n2]):P:=h
def aby(h:P:=by simp[I]):P:=h
def abz(h:P:=by simp only[aO]at hn;omega):P:=h
def abA(h:P:=by have:=nd hs;omega):P:=h
def abB(h:P:=by intro j x I;match j,I with|0,I=>cases I;rfl):P:=h
def abC(h:P:=by have:=ar.pc;grind):P:=h
def abD(h:P:=by intro j hj;(try simp only[upd]);(repeat rw[l4 (by omega)]);rw[(fr j (.inr (by omega))).2];exact nt (ar j (by omega))):P:=h
def abE(h:P:=by simp only[go_sem];exact hB):P:=h
def abF(h:P:=by intro _ _ _ _ J;simp only[go_sem,n1,n2]at J|-;exact J):P:=h
def abG(h:P:=by intro _ _ _ _ J;simp only[go_sem,f3,o3]at J|-;exact J):P:=h
def abH(h:P:=by simp[Region.wanted,hg,hy]):P:=h
def abI(h:P:=by intro i hi;rw[(hs i hi).1,(hs i hi).2];exact h.same i):P:=h
def abJ(h:P:=by intro w;simp[binOp,Op.stringOp,xN]):P:=h
def abK(h:P:=by rfl):P:=h
def abL(h:P:=by simp[next]):P:=h
def abM(h:P:=by (try simp only[j7,j8,l5]);omega):P:=h
def abN(h:P:=by rw[hm.pc];exact I):P:=h
def abO(h:P:=by intro i hi;simp only[upd];grind):P:=h
def abP(h:P:=by decide):P:=h
def abQ(h:P:=by simp[hb]):P:=h
def abR(h:P:=by simp only[go_sem];exact dj rfl):P:=h
def abS(h:P:=by intro w;simp[binOp,Op.intBits]):P:=h
def abT(h:P:=by intro d' an;grind):P:=h
def abU(h:P:=by obtain⟨b,rfl,e1,e2⟩:=h6;exact vF K e1 e2):P:=h
def abV(h:P:=by simp only[go_sem,b5];exact J):P:=h
def abW(h:P:=by rw[I];exact hf B H W s.gen s.obj hB ar h hl):P:=h
def abX(h:P:=by simp only[go_sem,n1,n2,sB]):P:=h
def abY(h:P:=by simp only[go_sem];exact hS):P:=h
def abZ(h:P:=by simp only[go_sem];exact hE):P:=h
def ab0(h:P:=by simp only[go_sem];exact CC):P:=h
def ab1(h:P:=by simp only[go_sem];exact CD):P:=h
def ab2(h:P:=by simp only[go_sem];exact hW):P:=h
def ab3(h:P:=by simp only[szS,aI,aO];omega):P:=h
def ab4(h:P:=by simp[bu,ho]):P:=h
def ab5(h:P:=by simp only[aE,j8,l5];omega):P:=h
def ab6(h:P:=by have:=h.sm.a;omega):P:=h
def ab7(h:P:=by simp only[go_sem];rw[<-b5];exact Hf _):P:=h
def ab8(h:P:=by have:=rI hs;omega):P:=h
def ab9(h:P:=by simp only[szS,aI];omega):P:=h
def aca(h:P:=by rw[h.len];decide):P:=h
def ac0(h:P:=by rw[bq U];rfl):P:=h
def ac1(h:P:=by simp only[go_sem];rfl):P:=h
def ac2(h:P:=by intro i hi;(try simp only[Am.upd]);(repeat (rw[l4 (by omega)]));grind):P:=h
def ac3(h:P:=by simp[e]):P:=h
def ac4(h:P:=by unfold di;clear ho hn;induction l with|nil=>rfl|cons a l ih=>grind):P:=h
def ac5(h:P:=by intro w;simp[binOp,Op.intArith]):P:=h
def ac6(h:P:=by simp only[aD,aE,s9]):P:=h
def ac7(h:P:=by simp only[go_sem];exact dd _ _ (e1 _) (by simp only[upd];grind)):P:=h
def ac8(h:P:=by simp[cq]):P:=h
def ac9(h:P:=by rw[I];exact hw b G D H u code holes s.gen s.obj ar hg hl a):P:=h
def adf(h:P:=by intro _ _ _ _ J;simp only[go_sem,fnV,fnD]at J|-;exact J):P:=h
def adh(h:P:=by simp only[go_sem];exact hF):P:=h
def adl(h:P:=by simp only[go_sem];exact hR):P:=h
def adq(h:P:=by intro _ _ _ _ J;simp only[go_sem,f0,f1]at J|-;exact J):P:=h
def adr(h:P:=by simp only[go_sem];exact hG):P:=h
def ads(h:P:=by intro _ _ _ _ J;simp only[go_sem,q6,b]at J|-;exact J):P:=h
def adt(h:P:=by simp only[go_sem,n1,n2,L]):P:=h
def adu(h:P:=by simp only[go_sem];exact a):P:=h
def adv(h:P:=by first|(simp[upd];done)|(simp only[upd];exact nt (hn))):P:=h
def adw(h:P:=by simp only[aD,aE,aJ,Emit.eN,Emit.ey,j7,j8,l5,s9,u7,A3]):P:=h
def adx(h:P:=by simp only[go_sem];exact A):P:=h
def ady(h:P:=by intro _ _ _ _ J;simp only[go_sem,c,l]at J|-;exact J):P:=h
def adz(h:P:=by cases ho):P:=h
def adA(h:P:=by simp[hg]):P:=h
def adB(h:P:=by intro d' h;grind):P:=h
def adC(h:P:=by intro a _;rw[m3]):P:=h
def adD(h:P:=by simp[pack,smV,smD,dy,aL]):P:=h
def adE(h:P:=by intro i hi;grind):P:=h
def adF(h:P:=by rw[bq U];decide):P:=h
def adG(h:P:=by intro m h;rw[<-hp,show Src.dH=[40]from rfl,h];rfl):P:=h
def adH(h:P:=by intro l m h;have:=Src.HV h;have:=Src.wL l m h;omega):P:=h
end
set_option maxHeartbeats 64000000
set_option maxRecDepth 100000
end Go
namespace Go.Proofs
section
open Go.Shelf
end
open Go.Shelf Go.RowKit Go.Lib
section
variable{P:Program}{m:Ren}
end
variable{P:Program}{m:Ren}
end Go.Proofs
namespace Go.Proofs.YtfdbpgoicedpcaaGreatDoor
section
open Go Go.Shelf
def jk{H:Type}{a b:H}(h:a=b):S a=S b:=by rw[h]
def xx:Ren:=⟨fun|156=>21|165=>49|166=>48|169=>24|240=>81|241=>82|276=>124|277=>125|n=>n,fun|31=>22|9=>9|3=>3|4=>4|0=>0|20=>20|72=>58|76=>103|70=>55|37=>56|75=>102|127=>112|164=>221|5=>5|80=>69|n=>n,λn=>n⟩
def Uj:Go.Proofs.Lays.n156 Tryz.prog xx where
 mixed:=c8
 f156:=Tryz.func21.trans (jk j0)
 f165:=Tryz.func49.trans (jk c8)
 f166:=Tryz.func48.trans (jk c8)
 f169:=Tryz.func24.trans (jk c8)
 f240:=Tryz.func81.trans (jk c8)
 f241:=Tryz.func82.trans (jk c8)
 f276:=Tryz.func124.trans (jk c8)
 f277:=Tryz.func125.trans (jk c8)
 t0:=Tryz.underlying0
 a0:=Tryz.isAgg0
 z0:=Tryz.sizeOf0
 v0:=Tryz.zeroValue0
 t3:=Tryz.underlying3
 a3:=Tryz.isAgg3
 z3:=Tryz.sizeOf3
 v3:=Tryz.zeroValue3
 t4:=Tryz.underlying4
 a4:=Tryz.isAgg4
 z4:=Tryz.sizeOf4
 v4:=Tryz.zeroValue4
 t9:=Tryz.underlying9
 a9:=Tryz.isAgg9
 z9:=Tryz.sizeOf9
 v9:=Tryz.zeroValue9
 t20:=Tryz.underlying20
 a20:=Tryz.isAgg20
 z20:=Tryz.sizeOf20
 v20:=Tryz.zeroValue20
 t31:=Tryz.underlying22
 a31:=Tryz.isAgg22
 z31:=Tryz.sizeOf22
 v31:=Tryz.zeroValue22
 t37:=Tryz.underlying56
 a37:=Tryz.isAgg56
 z37:=Tryz.sizeOf56
 v37:=Tryz.zeroValue56
 t70:=Tryz.underlying55
 a70:=Tryz.isAgg55
 z70:=Tryz.sizeOf55
 v70:=Tryz.zeroValue55
 t72:=Tryz.underlying58
 a72:=Tryz.isAgg58
 z72:=Tryz.sizeOf58
 v72:=Tryz.zeroValue58
 t75:=Tryz.underlying102
 a75:=Tryz.isAgg102
 z75:=Tryz.sizeOf102
 v75:=Tryz.zeroValue102
 t76:=Tryz.underlying103
 a76:=Tryz.isAgg103
 z76:=Tryz.sizeOf103
 v76:=Tryz.zeroValue103
 t127:=Tryz.underlying112
 a127:=Tryz.isAgg112
 z127:=Tryz.sizeOf112
 v127:=Tryz.zeroValue112
 t164:=Tryz.underlying221
 a164:=Tryz.isAgg221
 z164:=Tryz.sizeOf221
 v164:=Tryz.zeroValue221
def Fp:Ren:=⟨fun|283=>126|n=>n,fun|3=>3|9=>9|4=>4|n=>n,λn=>n⟩
def Uk:Go.Proofs.Lays.n283 Tryz.prog Fp where
 mixed:=c8
 f283:=Tryz.func126.trans (jk c8)
 t3:=Tryz.underlying3
 a3:=Tryz.isAgg3
 z3:=Tryz.sizeOf3
 v3:=Tryz.zeroValue3
 t4:=Tryz.underlying4
 a4:=Tryz.isAgg4
 z4:=Tryz.sizeOf4
 v4:=Tryz.zeroValue4
 t9:=Tryz.underlying9
 a9:=Tryz.isAgg9
 z9:=Tryz.sizeOf9
 v9:=Tryz.zeroValue9
def CP:Ren:=⟨fun|284=>127|129=>195|317=>194|318=>196|n=>n,fun|53=>107|3=>3|212=>289|0=>0|4=>4|46=>169|5=>5|9=>9|n=>n,fun|17=>2|n=>n⟩
def Po:Go.Proofs.LaysM.n284 Tryz.prog CP where
 mixed:=c8
 f129:=Tryz.func195.trans (jk c8)
 f284:=Tryz.func127.trans (jk c8)
 f317:=Tryz.func194.trans (jk c8)
 f318:=Tryz.func196.trans (jk c8)
 t0:=Tryz.underlying0
 a0:=Tryz.isAgg0
 z0:=Tryz.sizeOf0
 v0:=Tryz.zeroValue0
 t3:=Tryz.underlying3
 a3:=Tryz.isAgg3
 z3:=Tryz.sizeOf3
 v3:=Tryz.zeroValue3
 t4:=Tryz.underlying4
 a4:=Tryz.isAgg4
 z4:=Tryz.sizeOf4
 v4:=Tryz.zeroValue4
 t5:=Tryz.underlying5
 a5:=Tryz.isAgg5
 z5:=Tryz.sizeOf5
 v5:=Tryz.zeroValue5
 t9:=Tryz.underlying9
 a9:=Tryz.isAgg9
 z9:=Tryz.sizeOf9
 v9:=Tryz.zeroValue9
 t46:=Tryz.underlying169
 a46:=Tryz.isAgg169
 z46:=Tryz.sizeOf169
 v46:=Tryz.zeroValue169
 t53:=Tryz.underlying107
 a53:=Tryz.isAgg107
 z53:=Tryz.sizeOf107
 v53:=Tryz.zeroValue107
 t212:=Tryz.underlying289
 a212:=Tryz.isAgg289
 z212:=Tryz.sizeOf289
 v212:=Tryz.zeroValue289
 g17:=j0
 i0:=j0
 i3:=j0
 i4:=j0
 i5:=j0
 i9:=j0
 i46:=j0
 i53:=j0
 i212:=j0
 m17:=j0
def Fq:Ren:=⟨fun|285=>128|n=>n,fun|37=>56|53=>107|3=>3|4=>4|51=>64|9=>9|5=>5|0=>0|n=>n,λn=>n⟩
def Ul:Go.Proofs.Lays.n285 Tryz.prog Fq where
 mixed:=c8
 f285:=Tryz.func128.trans (jk j0)
 t0:=Tryz.underlying0
 a0:=Tryz.isAgg0
 z0:=Tryz.sizeOf0
 v0:=Tryz.zeroValue0
 t3:=Tryz.underlying3
 a3:=Tryz.isAgg3
 z3:=Tryz.sizeOf3
 v3:=Tryz.zeroValue3
 t4:=Tryz.underlying4
 a4:=Tryz.isAgg4
 z4:=Tryz.sizeOf4
 v4:=Tryz.zeroValue4
 t5:=Tryz.underlying5
 a5:=Tryz.isAgg5
 z5:=Tryz.sizeOf5
 v5:=Tryz.zeroValue5
 t9:=Tryz.underlying9
 a9:=Tryz.isAgg9
 z9:=Tryz.sizeOf9
 v9:=Tryz.zeroValue9
 t37:=Tryz.underlying56
 a37:=Tryz.isAgg56
 z37:=Tryz.sizeOf56
 v37:=Tryz.zeroValue56
 t51:=Tryz.underlying64
 a51:=Tryz.isAgg64
 z51:=Tryz.sizeOf64
 v51:=Tryz.zeroValue64
 t53:=Tryz.underlying107
 a53:=Tryz.isAgg107
 z53:=Tryz.sizeOf107
 v53:=Tryz.zeroValue107
end
open Go Go.RowKit Go.Shelf
end Go.Proofs.YtfdbpgoicedpcaaGreatDoor
namespace Go.Am
def ite_cc{H}{b c}[Decidable b][Decidable c]{x y:H}(h:b=c):ite b x y=ite c x y:=by subst h;congr
attribute [go_sem] reduceIte
attribute[local congr]ite_cc
inductive D where|bool (b:Bool)|int (k:IntKind) (n:Int)|str (s:List UInt8)|sl (es:List (List D))|nsl|nilp|nilf|nili|nilm|fn (f:FuncId)|iptr (cs:List D)|yld (l:Nat)deriving Inhabited
inductive PC where|d (x:D)|ptr (id g off:Nat)deriving Inhabited
inductive C where|d (x:D)|osl (id g sz off len:Nat)|ptr (id g off:Nat)|clo (f:FuncId) (bd:List PC)|mp (id g kd:Nat)|lsl (n:Nat)|raw (o:Obj)deriving Inhabited
inductive AV where|one (c:C)|agg (cs:List C)|tup (vs:List AV)|junk|exact(v:Value)deriving Inhabited
structure St where
 f:Nat->AV
 gen:Nat->Nat
 obj:Nat->Option (List C)
inductive Box {H:Type} (a:H):Type where|mk
@[reducible]def bx{H:Type}(a:H):Box a:=.mk
def upd{H:Type}(f:Nat->H)(i:Nat)(v:H):Nat->H:=λj=>if j=i then v else f j
structure TI where
 desc:TypeDesc
 size:Nat
 bytes:Nat
 zero:List D deriving Inhabited
abbrev iv(k:IntKind)(n:Int):AV:=.one (.d (.int k n))
abbrev bv(b:Bool):AV:=.one (.d (.bool b))
abbrev sv(s:List UInt8):AV:=.one (.d (.str s))
abbrev uv:AV:=.tup []
abbrev ag(n:Int):C:=.d (.int .i64 n)
abbrev aw(l:List (List D)):C:=.d (.sl l)
abbrev bW(s:List UInt8):C:=.d (.str s)
abbrev bO(b:Bool):C:=.d (.bool b)
abbrev aj(i g o:Nat):AV:=.one (.ptr i g o)
abbrev eS(i g X o l:Nat):AV:=.one (.osl i g X o l)
abbrev ae(n:Int):AV:=iv .i64 n
def agh:Value->C|.bool b=>.d (.bool b)|.int k n=>.d (.int k n)|.string s=>.d (.str s.data.toList)|.slice N 0 0=>.d .nsl|.pointer N=>.d .nilp|.nilFunc=>.d .nilf|.nilIface=>.d .nili|.map N=>.d .nilm|_=>.osl 0 0 0 0 0
def BL:Value->AV|.bool b=>.one (.d (.bool b))|.int k n=>.one (.d (.int k n))|.string s=>.one (.d (.str s.data.toList))|.slice N 0 0=>.one (.d .nsl)|.pointer N=>.one (.d .nilp)|.nilFunc=>.one (.d .nilf)|.nilIface=>.one (.d .nili)|.map N=>.one (.d .nilm)|_=>.junk
def St.ev(s:St):Operand->AV|.tmp t=>s.f t|.const v=>BL v|.global _=>.junk|.func f=>.one (.d (.fn f))
def St.put(s:St)(dst:Option Nat)(v:AV):St:=match dst with|none=>s|some d=>{s with f:=upd s.f d v}
def nxC(c g:Nat):Nat:=1000000*(g+1)+(if c<1000000 then c else 0)
def code(g:Nat):Nat:=g%1000000
def vB c g:g<nxC c g:=by grind[nxC]
def yf c g:nxC c g≠g:=Nat.ne_of_gt (vB c g)
def nC c g:code (nxC c g)=if c<1000000 then c else 0:=by grind[code,nxC]
def vC{c} g(h:c<1000000):code (nxC c g)=c:=by rw[nC,s5 h]
def apC(e g off:Nat):Nat:=if code g=e+1/\off=0 then e+1 else 0
def St.newC(c:Nat)(s:St)(d:Nat)(cs:List C):St:={s with gen:=upd s.gen d (nxC c (s.gen d)),obj:=upd s.obj d (S cs)}
def fC:TypeDesc->Bool|.struct _|.array _ _=>T|_=>F
def cellsOf:AV->Option (List C)|.one c=>S [c]|.agg cs=>S cs|_=>N
def setAt(cells:List C)(off:Nat):List C->List C|[]=>cells|c::cs=>setAt (cells.set off c) (off+1) cs
def xa(b:UInt8):D:=.int .u8 b.toNat
def mH(b:Bool){K:Bool->Prop}(_:Box K):Prop:=(b=T->K T)/\(b=F->K F)
def cA{H:Type}(x:Option H){K:H->Prop}(_:Box K):Prop:=match x with|some a=>K a|none=>False
def tA(v:AV){K:Bool->Prop}(k:Box K):Prop:=match v with|.one (.d (.bool b))=>mH b k|_=>False
def pN(v:AV){K:Bool->Prop}(k:Box K){U:Prop}(_:Box U):Prop:=match v with|.one (.d (.bool b))=>mH b k|.tup []=>U|_=>False
def Dj(p:TI)(cells:List C)(off:Nat){K:AV->Prop}(_:Box K):Prop:=match fC p.desc with|true=>off+p.size<=z cells/\K (.agg ((cells.drop off).take p.size))|false=>cA (cells[off]?) (bx λc=>K (.one c))
def LI(p:TI)(cs:List D){K:AV->Prop}(_:Box K):Prop:=match fC p.desc with|true=>p.size<=z cs/\K (.agg ((cs.take p.size).map .d))|false=>cA (cs[0]?) (bx λc=>K (.one (.d c)))
def okD:TypeDesc->Bool|.invalid=>F|_=>T
def yg(p:TI)(s:St)(a:AV){K:AV->Prop}(k:Box K):Prop:=match a with|.one (.ptr id g off)=>okD p.desc=T/\s.gen id=g/\cA (s.obj id) (bx λe=>Dj p e off k)|.one (.d (.iptr cs))=>okD p.desc=T/\LI p cs k|_=>False
def tB(p:TI)(s:St)(a x:AV){K:St->Prop}(_:Box K):Prop:=match a with|.one (.ptr id g off)=>okD p.desc=T/\s.gen id=g/\cA (cellsOf x) (bx λh=>z h=p.size/\cA (s.obj id) (bx λe=>off+z h<=z e/\K {s with obj:=upd s.obj id (S (setAt e off h))}))|_=>False
def ko(s:St)(sz:Nat)(x J:AV){K:AV->Prop}(_:Box K):Prop:=match J with
 |.one (.d (.int _ i))=>match x with|.one (.d (.sl es))=>0<=i/\cA (es[i.toNat]?) (bx λc=>z c=sz/\K (.one (.d (.iptr c))))|.one (.osl id g e off len)=>s.gen id=g/\(s.obj id).isSome=T/\0<=i/\i<len/\e=sz/\K (.one (.ptr id g (off+i.toNat*sz)))|_=>False
 |_=>False
def pd(G:Nat->TI)(d:TypeDesc)(s:St)(x J:AV){K:AV->Prop}(_:Box K):Prop:=match d with
 |.array n e=>match J with
  |.one (.d (.int _ i))=>match x with|.one (.ptr id g off)=>s.gen id=g/\(s.obj id).isSome=T/\okD (G e).desc=T/\0<=i/\i<n/\K (.one (.ptr id g (off+i.toNat*(G e).size)))|_=>False
  |_=>False
 |_=>False
def qT(d:TypeDesc):Bool:=match d with|.array _ _=>T|_=>F
def yh(x J:AV){K:AV->Prop}(_:Box K):Prop:=match J with
 |.one (.d (.int _ i))=>match x with|.one (.d (.str s))=>0<=i/\cA (s[i.toNat]?) (bx λc=>K (iv .u8 c.toNat))|_=>False
 |_=>False
def qQ(op:BinOp)(k:IntKind)(x y:Int){K:AV->Prop}(_:Box K):Prop:=match op with|.add=>K (iv k (k.wrap (x+y)))|.sub=>K (iv k (k.wrap (x-y)))|.mul=>K (iv k (k.wrap (x*y)))|.quo=>y≠0/\K (iv k (k.wrap (x.tdiv y)))|.rem=>y≠0/\K (iv k (x.tmod y))|.eql=>K (bv (decide (x=y)))|.neq=>K (bv (decide (x≠y)))|.lss=>K (bv (decide (x<y)))|.leq=>K (bv (decide (x<=y)))|.gtr=>K (bv (decide (y<x)))|.geq=>K (bv (decide (y<=x)))|.and=>K (iv k (k.wrap (BitVec.ofInt k.bits x&&&BitVec.ofInt k.bits y).toNat))|.or=>K (iv k (k.wrap (BitVec.ofInt k.bits x|||BitVec.ofInt k.bits y).toNat))|.xor=>K (iv k (k.wrap (BitVec.ofInt k.bits x^^^BitVec.ofInt k.bits y).toNat))|.andNot=>K (iv k (k.wrap (BitVec.ofInt k.bits x&&&~~~BitVec.ofInt k.bits y).toNat))|.shl=>0<=y/\K (iv k (k.wrap (x*2^(min y.toNat k.bits))))|.shr=>0<=y/\K (iv k (x.fdiv (2^(min y.toNat k.bits))))
def JU(op:BinOp)(x y:List UInt8){K:AV->Prop}(_:Box K):Prop:=match op with|.add=>((z x+z y:Nat):Int)<=9223372036854775807/\K (sv (x++y))|.eql=>K (bv (decide (x=y)))|.neq=>K (bv (decide (x≠y)))|.lss=>K (bv (Op.bytesLess x y))|.leq=>K (bv (Op.bytesLess x y||decide (x=y)))|.gtr=>K (bv (!(Op.bytesLess x y||decide (x=y))))|.geq=>K (bv (!Op.bytesLess x y))|_=>False
def sameKind(op:BinOp)(k E:IntKind):Prop:=match op with|.shl|.shr=>True|_=>k=E
def Wa(d:TypeDesc)(op:BinOp)(x y:Bool){K:AV->Prop}(_:Box K):Prop:=match d,op with|.bool,.eql=>K (bv (decide (x=y)))|.bool,.neq=>K (bv (decide (x≠y)))|_,_=>False
def AF(k:IntKind):List C->Option (List Int)|[]=>S []|.d (.int E n)::r=>if E=k then(AF k r).map (n::·)else N|_=>N
def QJ(p:TI)(n:Nat)(xs Q:List C){K:Bool->Prop}(_:Box K):Prop:=match p.desc with|.int k=>p.size=1/\cA (AF k xs) (bx λa=>cA (AF k Q) (bx λb=>(z a=n/\z b=n)/\K (decide (a=b))))|_=>False
def ZL(G:Nat->TI)(d:TypeDesc)(op:BinOp)(xs Q:List C){K:AV->Prop}(_:Box K):Prop:=match d,op with|.array n e,.eql=>QJ (G e) n xs Q (bx λb=>K (bv b))|.array n e,.neq=>QJ (G e) n xs Q (bx λb=>K (bv (!b)))|_,_=>False
def Gj(G:Nat->TI)(d:TypeDesc)(op:BinOp)(x y:AV){K:AV->Prop}(k:Box K):Prop:=match x,y with|.one (.d (.int e a)),.one (.d (.int h b))=>sameKind op e h/\qQ op e a b k|.one (.d (.str a)),.one (.d (.str b))=>JU op a b k|.one (.d (.bool a)),.one (.d (.bool b))=>Wa d op a b k|.agg xs,.agg Q=>ZL G d op xs Q k|_,_=>False
def unA(op:UnOp)(x:AV){K:AV->Prop}(_:Box K):Prop:=match op,x with|.not,.one (.d (.bool b))=>K (bv (!b))|.neg,.one (.d (.int k n))=>K (iv k (k.wrap (0-n)))|_,_=>False
def contents(s:St)(str sl:Bool)(sz:Nat)(x:AV){K:Nat->List C->Prop}(_:Box K):Prop:=match x with|.one (.d .nsl)=>sl=T/\K 0 []|.one (.d (.sl es))=>sl=T/\(∀e∈es,z e=sz)/\K (z es) (es.flatten.map .d)|.one (.d (.str bs))=>str=T/\sz=1/\K (z bs) (bs.map λb=>.d (xa b))|.one (.osl id g i off len)=>sl=T/\s.gen id=g/\i=sz/\cA (s.obj id) (bx λh=>off+len*sz<=z h/\K len ((h.drop off).take (len*sz)))|_=>False
def u8s:List C->Option (List Int)|[]=>S []|.d (.int .u8 n)::r=>(u8s r).map (n::·)|_=>N
def Gk:TypeDesc->Bool|.int .u8=>T|_=>F
def xb(s:St)(el:TypeDesc)(src dst:TypeDesc)(x:AV){K:AV->Prop}(_:Box K):Prop:=match src,dst,x with|a,.int k,.one (.d (.int _ n))=>okD a=T/\K (iv k (k.wrap n))|.string,.string,.one (.d (.str b))=>K (sv b)|.slice _,.string,y=>Gk el=T/\contents s F T 1 y (bx λ_ e=>cA (u8s e) (bx λm=>K (sv (m.map λn=>UInt8.ofNat n.toNat))))|_,_,_=>False
def Gl(n bytes:Nat):Prop:=0<bytes/\(2*n+1024)*bytes<=281474976710656
def pO(e:Nat)(p:TI)(str sl:Bool)(i d:Nat)(s:St)(x y:AV){K:St->Prop}(_:Box K):Prop:=match x with|.one (.d .nsl)=>contents s str sl p.size y (bx λn j=>Gl n p.bytes/\K ((s.newC (e+1) i j).put (S d) (.one (.osl i (nxC (e+1) (s.gen i)) p.size 0 n))))|.one (.osl id g sz off len)=>s.gen id=g/\sz=p.size/\cA (s.obj id) (bx λh=>off+len*sz<=z h/\contents s str sl p.size y (bx λn j=>Gl (len+n) p.bytes/\K ((s.newC (apC e (s.gen id) off) id ((h.drop off).take (len*sz)++j)).put (S d) (.one (.osl id (nxC (apC e (s.gen id) off) (s.gen id)) p.size 0 (len+n))))))|_=>False
def Dk(s:St)(str sl:Bool)(x:AV){K:AV->Prop}(_:Box K):Prop:=match x with|.one (.d .nsl)=>sl=T/\K (iv .i64 0)|.one (.d (.sl es))=>sl=T/\K (iv .i64 (z es))|.one (.d (.str bs))=>str=T/\K (iv .i64 (z bs))|.one (.osl id g _ _ len)=>sl=T/\s.gen id=g/\(s.obj id).isSome=T/\K (iv .i64 len)|.one (.lsl n)=>sl=T/\K (iv .i64 n)|_=>False
def lE(o:Option AV)(G:Nat){K:Nat->Prop}(_:Box K):Prop:=match o with|none=>K G|some (.one (.d (.int _ n)))=>0<=n/\K n.toNat|_=>False
def qU(s:St)(str sl:Bool)(sz:Nat)(x:AV)(lo e:Option AV){K:AV->Prop}(_:Box K):Prop:=match x with|.one (.d (.str bs))=>str=T/\lE e (z bs) (bx λh=>lE lo 0 (bx λl=>l<=h/\h<=z bs/\K (sv ((bs.take h).drop l))))|.one (.d (.sl es))=>sl=T/\lE e (z es) (bx λh=>lE lo 0 (bx λl=>l<=h/\h<=z es/\(∀x∈es,z x=sz)/\K (.one (.d (.sl ((es.take h).drop l))))))|.one (.d .nsl)=>sl=T/\lE e 0 (bx λh=>lE lo 0 (bx λl=>l=0/\h=0/\K (.one (.d .nsl))))|.one (.osl id g i off len)=>sl=T/\s.gen id=g/\(s.obj id).isSome=T/\lE e len (bx λh=>lE lo 0 (bx λl=>l<=h/\h<=len/\i=sz/\K (.one (.osl id g sz (off+l*sz) (h-l)))))|_=>False
def QK(o:Option (List C))(n:Nat):Prop:=∃l,o=S l/\n<=z l
def pe(G:Nat->TI)(d:TypeDesc)(s:St)(x:AV)(lo i:Option AV){K:AV->Prop}(_:Box K):Prop:=match d with
 |.array n e=>match x with
  |.one (.ptr id g off)=>match lo with|none=>s.gen id=g/\okD (G e).desc=T/\QK (s.obj id) (off+n*(G e).size)/\lE i n (bx λh=>h<=n/\K (.one (.osl id g (G e).size off h)))|_=>False
  |_=>False
 |_=>False
def Gm(sz:Nat):(k:Nat)->(ps:List (Nat×AV))->{K:List C->Prop}->Box K->Prop|_,[],K,_=>K []|k,p::r,K,_=>p.1=k/\cA (cellsOf p.2) (bx λe=>z e=sz/\Gm sz (k+1) r (bx λrest=>K (e++rest)))
def me(e sz i d n:Nat)(s:St)(ps:List (Nat×AV)){K:St->Prop}(_:Box K):Prop:=(z ps)=n/\n*sz<=16777216/\Gm sz 0 ps (bx λh=>K ((s.newC (e+1) i h).put (S d) (.one (.osl i (nxC (e+1) (s.gen i)) sz 0 n))))
def mT(d:TypeDesc)(f:Nat):Option Field:=match d with|.struct fs=>fs[f]?|_=>N
def kq(G:Nat->TI)(t f:Nat)(s:St)(x:AV){K:AV->Prop}(_:Box K):Prop:=match x with|.one (.ptr id g off)=>s.gen id=g/\(s.obj id).isSome=T/\cA (mT (G t).desc f) (bx λfl=>(okD (G fl.type).desc=T/\(G fl.type).size≠0)/\K (.one (.ptr id g (off+fl.offset))))|.one (.d (.iptr cs))=>cA (mT (G t).desc f) (bx λfl=>(okD (G fl.type).desc=T/\(G fl.type).size≠0)/\K (.one (.d (.iptr (cs.drop fl.offset)))))|_=>False
def vD(G:Nat->TI)(t f:Nat)(x:AV){K:AV->Prop}(k:Box K):Prop:=match x with|.agg cs=>cA (mT (G t).desc f) (bx λfl=>okD (G fl.type).desc=T/\Dj (G fl.type) cs fl.offset k)|_=>False
def yi(pl:Nat->Option (Nat×Nat)):(cells:List C)->(ps:List (Nat×AV))->{K:List C->Prop}->Box K->Prop|cells,[],K,_=>K cells|cells,p::r,_,k=>cA (pl p.1) (bx λq=>cA (cellsOf p.2) (bx λe=>z e=q.2/\q.1+q.2<=z cells/\yi pl (setAt cells q.1 e) r k))
def placeOf(G:Nat->TI)(d:TypeDesc)(i:Nat):Option (Nat×Nat):=match d with|.array _ e=>S (i*(G e).size,(G e).size)|d=>(mT d i).bind λfl=>bif okD (G fl.type).desc then S (fl.offset,(G fl.type).size)else N
def jo(G:Nat->TI)(t:Nat):Bool:=match (G t).desc with|.struct fs=>fs.toList.all λf=>okD (G f.type).desc|.array _ e=>okD (G e).desc|_=>F
def iJ(G:Nat->TI)(t:Nat)(ps:List (Nat×AV)){K:AV->Prop}(_:Box K):Prop:=jo G t=T/\yi (placeOf G (G t).desc) ((G t).zero.map .d) ps (bx λe=>K (.agg e))
def QL(t i d:Nat)(s:St)(x:AV){K:St->Prop}(_:Box K):Prop:=cA (cellsOf x) (bx λe=>K ((s.newC (t+1) i e).put (S d) (.one (.ptr i (nxC (t+1) (s.gen i)) 0))))
def BM(t:Nat)(p:TI)(i d:Nat)(s:St){K:St->Prop}(_:Box K):Prop:=okD p.desc=T/\K ((s.newC (t+1) i (p.zero.map .d)).put (S d) (.one (.ptr i (nxC (t+1) (s.gen i)) 0)))
def lF(s:St)(x:AV){K:AV->Prop}(_:Box K):Prop:=match x with|.one (.ptr id g off)=>s.gen id=g/\(s.obj id).isSome=T/\K (.one (.ptr id g off))|.one (.d (.iptr cs))=>K (.one (.d (.iptr cs)))|_=>False
def qV(x:AV)(i:Nat){K:AV->Prop}(k:Box K):Prop:=match x with|.tup A=>cA (A[i]?) k|_=>False
def mxA(e:Bool)(x y:AV){K:AV->Prop}(_:Box K):Prop:=match x,y with|.one (.d (.int k a)),.one (.d (.int _ b))=>K (iv k (if e then max a b else min a b))|_,_=>False
def lG(e:Nat)(p:TI)(i d:Nat)(s:St)(l c:AV){K:St->Prop}(_:Box K):Prop:=match l,c with|.one (.d (.int _ n)),.one (.d (.int _ m))=>0<=n/\n<=m/\m<=4611686018427387904/\m*p.bytes<=281474976710656/\K ((s.newC (e+1) i (List.replicate m.toNat (p.zero.map C.d)).flatten).put (S d) (.one (.osl i (nxC (e+1) (s.gen i)) p.size 0 n.toNat)))|_,_=>False
def fq:Nat->TypeDesc|0=>.int .i8|1=>.int .i16|2=>.int .i32|3=>.int .i64|4=>.int .u8|5=>.int .u16|6=>.int .u32|7=>.int .u64|8=>.string|9=>.bool|_=>.invalid
def pP:TypeDesc->Nat|.int .i8=>0|.int .i16=>1|.int .i32=>2|.int .i64=>3|.int .u8=>4|.int .u16=>5|.int .u32=>6|.int .u64=>7|.string=>8|_=>9
def jV:TypeDesc->D->Bool|.int k,.int E _=>E=k|.string,.str _=>T|.bool,.bool _=>T|_,_=>F
def nD:D->D->Bool|.int k n,.int E H=>k=E&&n=H|.str s,.str e=>s=e|.bool b,.bool h=>b=h|_,_=>F
def mget:List C->D->Option C|.d E::c::r,k=>if nD E k then S c else mget r k|_,_=>N
def mset:List C->D->C->List C|.d E::c::r,k,x=>if nD E k then .d E::x::r else .d E::c::mset r k x|_,k,x=>[.d k,x]
def Dl(agg:Bool)(n:Nat):Nat:=match agg with|true=>200+n|false=>n
def pg(G:Nat->TI)(t i d:Nat)(s:St){K:St->Prop}(_:Box K):Prop:=match (G t).desc with|.map n B=>fq (pP (G n).desc)=(G n).desc/\K ((s.newC 0 i []).put (S d) (.one (.mp i (nxC 0 (s.gen i)) (Dl (fC (G B).desc) (pP (G n).desc)))))|_=>False
def xd(ok:Bool)(X:D)(c:Option C):AV:=if ok then .tup [.one (c.getD (.d X)),bv c.isSome]else .one (c.getD (.d X))
def Dm(p:TI){K:D->Prop}(_:Box K):Prop:=match p.zero with|[X]=>(okD p.desc=T/\fC p.desc=F)/\K X|_=>False
def Dn(X:List D):Option C->List D|some (.d (.iptr ds))=>ds|_=>X
def pQ(ok:Bool)(X:List D)(c:Option C):AV:=match ok with|true=>.tup [.agg ((Dn X c).map .d),bv c.isSome]|false=>.agg ((Dn X c).map .d)
def Dp(p:TI){K:List D->Prop}(_:Box K):Prop:=(okD p.desc=T/\2<=z p.zero)/\K p.zero
def pR(G:Nat->TI)(t:Nat)(s:St)(x J:AV)(ok:Bool){K:AV->Prop}(_:Box K):Prop:=match (G t).desc,J with
 |.map n B,.one (.d k)=>(okD (G n).desc=T/\jV (G n).desc k=T)/\match fC (G B).desc with|false=>Dm (G B) (bx λX=>match x with|.one (.mp id g h)=>s.gen id=g/\fq h=(G n).desc/\cA (s.obj id) (bx λe=>K (xd ok X (mget e k)))|.one (.d .nilm)=>K (xd ok X N)|_=>False)|true=>Dp (G B) (bx λX=>match x with|.one (.mp id g h)=>s.gen id=g/\(200<=h/\fq (h-200)=(G n).desc)/\cA (s.obj id) (bx λe=>K (pQ ok X (mget e k)))|.one (.d .nilm)=>K (pQ ok X N)|_=>False)
 |_,_=>False
def datas:List C->Option (List D)|[]=>S []|.d x::r=>(datas r).map (x::·)|_=>N
def fX(G:Nat->TI)(t:Nat)(s:St)(m J x:AV){K:St->Prop}(_:Box K):Prop:=match (G t).desc,J,m,x with|.map n _,.one (.d k),.one (.mp id g h),.one c=>(okD (G n).desc=T/\jV (G n).desc k=T)/\s.gen id=g/\fq h=(G n).desc/\cA (s.obj id) (bx λe=>K {s with obj:=upd s.obj id (S (mset e k c))})|.map n _,.one (.d k),.one (.mp id g h),.agg cs=>(okD (G n).desc=T/\jV (G n).desc k=T)/\s.gen id=g/\(200<=h/\fq (h-200)=(G n).desc)/\cA (datas cs) (bx λds=>cA (s.obj id) (bx λe=>K {s with obj:=upd s.obj id (S (mset e k (.d (.iptr ds))))}))|_,_,_,_=>False
def LJ:AV->Option PC|.one (.d x)=>S (.d x)|.one (.ptr id g off)=>S (.ptr id g off)|_=>N
def qW:List AV->Option (List PC)|[]=>S []|x::xs=>(LJ x).bind λp=>(qW xs).bind λps=>S (p::ps)
def lH(f:FuncId)(first bd:List AV){K:AV->Prop}(_:Box K):Prop:=match first with|[]=>f<1000000/\cA (qW bd) (bx λl=>K (.one (.clo f l)))|x::r=>bd=[]/\cA (qW (x::r)) (bx λl=>K (.one (.clo (f+1000000) l)))
def bm(G:Nat->TI)(t:Nat):Nat:=match (G t).desc with|.slice e=>e|_=>0
def bI(G:Nat->TI)(t:Nat):TI:=match (G t).desc with|.slice e=>G e|_=>default
def yj(s:St)(c:Call)(i:Nat):AV:=s.ev (c.args.getD i (.const .nilFunc))
structure Sp where
 op:Oper->St->(St->Prop)->Prop
 code:Code->St->(Exit->St->Prop)->Prop
 vs:St->St->Prop
 base:Nat
def bE(ar:Sp)(o:Oper)(s:St){K:St->Prop}(_:Box K):Prop:=∃R,ar.op o s R/\∀e,R e->K e
def UI(ar:Sp)(c:Code)(s:St){Q:Exit->St->Prop}(_:Box Q):Prop:=∃R,ar.code c s R/\∀e h,R e h->Q e h
def isSlice(d:TypeDesc):Bool:=match d with|.slice _=>T|_=>F
def fY(G:Nat->TI):Op->Bool
 |.indexAddr _ x _=>match x with|.global _=>F|_=>T
 |.move _|.assign _|.pick ..|.load ..|.index ..|.binOp ..|.unOp ..|.slice _ _ _ _ N|.fieldAddr ..|.field ..|.build ..|.nilCheck _|.extract ..|.lookup ..|.makeFunc (.func _) _ _=>T|.convert _ d _=>!isSlice (G d).desc|.call c=>match c.callee with|.builtin .len|.builtin .max|.builtin .min=>T|_=>F
 |_=>F
def qX(G:Nat->TI)(ops:Array Oper):Bool:=(ops.toList.all (fY G ·.op)&&Region.lexB .any ops)||[1,2,3,4].any λk=>(ops.toList.take (ops.size-k)).all (fY G ·.op)&&Region.lexTailB .any ops (ops.size-k)
def isStr(d:TypeDesc):Bool:=match d with|.string=>T|_=>F
def eL(G:Nat->TI)(t:Nat):Bool:=isSlice (G t).desc&&okD (bI G t).desc
def pU(G:Nat->TI)(src d base:Nat)(dst:Option Nat)(s:St)(x:AV){K:St->Prop}(_:Box K):Prop:=match dst,x with|some i,.one (.d (.str bs))=>isStr (G src).desc=T/\Gk (bI G d).desc=T/\K ((s.newC (bm G d+1) (base+i) (bs.map λb=>.d (xa b))).put (S i) (.one (.osl (base+i) (nxC (bm G d+1) (s.gen (base+i))) 1 0 (z bs))))|_,_=>False
def ZM(ar:Sp)(G:Nat->TI)(o:Oper)(c:Call)(s:St){K:St->Prop}(k:Box K):Prop:=match c.callee,o.dst with|.builtin .len,dst=>(c.args.size=1/\c.argTypes.size=1)/\Dk s (isStr (G (c.argTypes.getD 0 0)).desc) (eL G (c.argTypes.getD 0 0)) (yj s c 0) (bx λv=>K (s.put dst v))|.builtin .max,dst=>c.args.size=2/\mxA T (yj s c 0) (yj s c 1) (bx λv=>K (s.put dst v))|.builtin .min,dst=>c.args.size=2/\mxA F (yj s c 0) (yj s c 1) (bx λv=>K (s.put dst v))|.builtin .append,S d=>(c.args.size=2/\c.argTypes.size=2)/\eL G (c.argTypes.getD 0 0)=T/\pO (bm G (c.argTypes.getD 0 0)) (bI G (c.argTypes.getD 0 0)) (isStr (G (c.argTypes.getD 1 0)).desc) (eL G (c.argTypes.getD 1 0)) (ar.base+d) d s (yj s c 0) (yj s c 1) k|_,_=>bE ar o s k
def opA(ar:Sp)(G:Nat->TI)(o:Oper)(s:St){K:St->Prop}(k:Box K):Prop:=match o.op,o.dst with
 |.move x,dst=>K (s.put dst (s.ev x))|.assign x,dst=>K (s.put dst (s.ev x))|.pick c a b,dst=>tA (s.ev c) (bx λt=>K (s.put dst (if t then s.ev a else s.ev b)))|.load t a,dst=>yg (G t) s (s.ev a) (bx λv=>K (s.put dst v))|.store t a x,dst=>tB (G t) s (s.ev a) (s.ev x) (bx λe=>K (e.put dst uv))|.indexAddr t x J,dst=>match x with|.global _=>bE ar o s k|x=>bif qT (G t).desc then pd G (G t).desc s (s.ev x) (s.ev J) (bx λv=>K (s.put dst v))else eL G t=T/\ko s (bI G t).size (s.ev x) (s.ev J) (bx λv=>K (s.put dst v))
 |.index t x J,dst=>isStr (G t).desc=T/\yh (s.ev x) (s.ev J) (bx λv=>K (s.put dst v))|.binOp op t x y _,dst=>Gj G (G t).desc op (s.ev x) (s.ev y) (bx λv=>K (s.put dst v))|.unOp op _ x,dst=>unA op (s.ev x) (bx λv=>K (s.put dst v))|.convert src d x,dst=>bif isSlice (G d).desc then pU G src d ar.base dst s (s.ev x) k else xb s (bI G src).desc (G src).desc (G d).desc (s.ev x) (bx λv=>K (s.put dst v))|.slice t x h j N,dst=>bif qT (G t).desc then pe G (G t).desc s (s.ev x) (h.map s.ev) (j.map s.ev) (bx λv=>K (s.put dst v))else qU s (isStr (G t).desc) (eL G t) (bI G t).size (s.ev x) (h.map s.ev) (j.map s.ev) (bx λv=>K (s.put dst v))|.buildSlice t n ps,S d=>eL G t=T/\me (bm G t) (bI G t).size (ar.base+d) d n s (ps.toList.map λp=>(p.1,s.ev p.2)) k|.makeSlice t l c,S d=>eL G t=T/\lG (bm G t) (bI G t) (ar.base+d) d s (s.ev l) (s.ev c) k|.fieldAddr t x f,dst=>kq G t f s (s.ev x) (bx λv=>K (s.put dst v))|.field t x f,dst=>vD G t f (s.ev x) (bx λv=>K (s.put dst v))|.build t ps,dst=>iJ G t (ps.toList.map λp=>(p.1,s.ev p.2)) (bx λv=>K (s.put dst v))|.nilCheck x,dst=>lF s (s.ev x) (bx λv=>K (s.put dst v))|.extract x i,dst=>qV (s.ev x) i (bx λv=>K (s.put dst v))|.box t x,S d=>QL t (ar.base+d) d s (s.ev x) k|.alloc t,S d=>BM t (G t) (ar.base+d) d s k|.makeMap t N,S d=>pg G t (ar.base+d) d s k|.lookup t x J ok,dst=>pR G t s (s.ev x) (s.ev J) ok (bx λv=>K (s.put dst v))|.mapUpdate t m J x,dst=>fX G t s (s.ev m) (s.ev J) (s.ev x) (bx λe=>K (e.put dst uv))|.makeFunc (.func f) first r,dst=>lH f (first.toList.map s.ev) (r.toList.map s.ev) (bx λv=>K (s.put dst v))|.call c,_=>ZM ar G o c s k|_,_=>bE ar o s k
def wpO(ar:Sp)(G:Nat->TI)(ops:Array Oper):List Oper->(s:St)->{K:St->Prop}->(k:Box K)->Prop|[],s,K,_=>K s|o::rest,s,K,k=>match o.guard with|none=>opA ar G o s (bx λe=>wpO ar G ops rest e k)|some (j,want)=>cA ((ops[j]?).bind (·.dst)) (bx λd=>pN (s.f d) (bx λb=>if b=want then opA ar G o {s with f:=upd s.f d (bv b)} (bx λe=>wpO ar G ops rest e k)else wpO ar G ops rest ({s with f:=upd s.f d (bv b)}.put o.dst uv) k) (bx (wpO ar G ops rest (s.put o.dst uv) k)))
def nE{next:St->Prop}(_:Box next){Q:Exit->St->Prop}(_:Box Q):Exit->St->Prop|.normal,s=>next s|e,s=>Q e s
def kN(id:Nat){Q:Exit->St->Prop}(_:Box Q):Exit->St->Prop|.exit L,s=>if L=id then Q .normal s else Q (.exit L) s|e,s=>Q e s
def uy(ar:Sp){B:(Exit->St->Prop)->St->Prop}(_:Box B){Q:Exit->St->Prop}(q:Box Q)(s:St):Prop:=∃I:Nat->St->Prop,(∃n d,ar.vs s d/\I n d)/\∀n s,I n s->B (nE (bx λe=>∃H d,H<n/\ar.vs e d/\I H d) q) s
def uz{Q:Exit->St->Prop}(_:Box Q):Exit->St->Prop|.goto _,_=>False|e,s=>Q e s
def nF(ar:Sp)(G:Nat->TI)(id:Nat)(ops:Array Oper)(s:St){Q:Exit->St->Prop}(q:Box Q):Prop:=(qX G ops=T/\wpO ar G ops ops.toList s (bx λe=>Q .normal e))\/UI ar (.region id ops T) s q
def wpC(ar:Sp)(G:Nat->TI):Code->{Q:Exit->St->Prop}->(q:Box Q)->St->Prop
 |.skip,Q,_,s=>Q .normal s|.label _,Q,_,s=>Q .normal s|.region id ops b,Q,q,s=>match b with|true=>nF ar G id ops s q|false=>wpO ar G ops ops.toList s (bx λe=>Q .normal e)
 |.seq x y,Q,q,s=>wpC ar G x (bx (nE (bx λe=>wpC ar G y q e) q)) s|.cond c x y,Q,q,s=>tA (s.ev c) (bx λb=>if b then wpC ar G x q s else wpC ar G y q s)|.block id c,Q,q,s=>wpC ar G c (bx (kN id q)) s|.loop c,Q,q,s=>uy ar (bx λQ s=>wpC ar G c (bx Q) s) q s|.exit id,Q,_,s=>Q (.exit id) s|.ret,Q,_,s=>Q .ret s|.scope c,_,q,s=>wpC ar G c (bx (uz q)) s|.goto l,Q,_,s=>Q (.goto l) s|c,_,q,s=>UI ar c s q
variable{s:St}{K:St->Prop}{ty:TypeId}{ps:String}{w:Array Edge}{gd:Option (Nat×Bool)}{dst:Option Tmp}{x:Operand}{t:TypeId}{n:Nat}{d:Tmp}{Q:Exit->St->Prop}{a:Array Operand}{A:Array TypeId}{c:Code}{J:Operand}{p:Array (Nat×Operand)}{next:St->Prop}{l:List Oper}{k:Box K}{q:Box Q}{b:Box next}{ar:Sp}{G:Nat->TI}
@[go_sem]def UJ{K}(k:Box K):mH T k=K T:=by simp[mH]
@[go_sem]def QM{K}(k:Box K):mH F k=K F:=by simp[mH]
@[go_sem]def QA p[Decidable p]{K}(k:Box K):mH (decide p) k=((p->K T)/\(¬p->K F)):=by simp[mH]
@[go_sem]def Wb b{K}(k:Box K):mH (!b) k=mH b (bx λt=>K (!t)):=by grind[mH]
@[go_sem]def UK:fC .bool=F/\okD .bool=T/\(∀ kd,fC (.int kd)=F)/\(∀ kd,isSlice (.int kd)=F)/\(∀ kd,okD (.int kd)=T)/\fC .string=F/\isSlice .string=F/\qT .string=F/\okD .string=T/\(∀ e,fC (.pointer e)=F)/\(∀ e,okD (.pointer e)=T)/\(∀ e,fC (.slice e)=F)/\(∀ e,qT (.slice e)=F)/\(∀ e,okD (.slice e)=T)/\(∀ e,isStr (.slice e)=F)/\(∀ fs,okD (.struct fs)=T)/\Gk (.int .u8)=T/\pP (.int .i64)=3/\pP .string=8/\fq 3=.int .i64/\fq 8=.string/\(∀ X,Dn X N=X)/\datas []=S []:=by and_intros<;>intros<;>exact B7 rfl rfl
@[go_sem]def Zb n e:okD (.array n e)=T:=B7 rfl rfl
@[go_sem]def We a b:fC (.map a b)=F:=B7 rfl rfl
@[go_sem]def adg a b:okD (.map a b)=T:=B7 rfl rfl
@[go_sem]def UP ps rs v:fC (.func ps rs v)=F:=B7 rfl rfl
@[go_sem]def ZO ps rs v:okD (.func ps rs v)=T:=B7 rfl rfl
@[go_sem]def Zc d n b X cells off{K}(k:Box K):Dj ⟨d,n,b,X⟩ cells off k=(match fC d with|true=>off+n<=z cells/\K (.agg ((cells.drop off).take n))|false=>cA (cells[off]?) (bx λc=>K (.one c))):=B7 rfl rfl
@[go_sem]def Zd d n b X cs{K}(k:Box K):LI ⟨d,n,b,X⟩ cs k=(match fC d with|true=>n<=z cs/\K (.agg ((cs.take n).map .d))|false=>cA (cs[0]?) (bx λc=>K (.one (.d c)))):=B7 rfl rfl
@[go_sem]def QP a b:sameKind .add a b=(a=b):=B7 rfl rfl
@[go_sem]def QQ a b:sameKind .sub a b=(a=b):=B7 rfl rfl
@[go_sem]def QR a b:sameKind .mul a b=(a=b):=B7 rfl rfl
@[go_sem]def QT a b:sameKind .quo a b=(a=b):=B7 rfl rfl
@[go_sem]def QU a b:sameKind .rem a b=(a=b):=B7 rfl rfl
@[go_sem]def QV a b:sameKind .eql a b=(a=b):=B7 rfl rfl
@[go_sem]def QW a b:sameKind .neq a b=(a=b):=B7 rfl rfl
@[go_sem]def QX a b:sameKind .lss a b=(a=b):=B7 rfl rfl
@[go_sem]def QY a b:sameKind .leq a b=(a=b):=B7 rfl rfl
@[go_sem]def QZ a b:sameKind .gtr a b=(a=b):=B7 rfl rfl
@[go_sem]def Ra a b:sameKind .geq a b=(a=b):=B7 rfl rfl
@[go_sem]def Rb a b:sameKind .and a b=(a=b):=B7 rfl rfl
@[go_sem]def UQ a b:sameKind .or a b=(a=b):=B7 rfl rfl
@[go_sem]def Ze sz n i x r{K}(k:Box K):Gm sz n ((i,x)::r) k=(i=n/\cA (cellsOf x) (bx λcs=>z cs=sz/\Gm sz (n+1) r (bx λrest=>K (cs++rest)))):=B7 rfl rfl
@[go_sem]def Wg pl cells i x r{K}(k:Box K):yi pl cells ((i,x)::r) k=cA (pl i) (bx λq=>cA (cellsOf x) (bx λcs=>z cs=q.2/\q.1+q.2<=z cells/\yi pl (setAt cells q.1 cs) r k)):=B7 rfl rfl
@[go_sem]def Wh fs i:placeOf G (.struct fs) i=(mT (.struct fs) i).bind λfl=>bif okD (G fl.type).desc then S (fl.offset,(G fl.type).size)else N:=B7 rfl rfl
@[go_sem]def adi k1 e a b{K}(k:Box K):mxA T (.one (.d (.int k1 a))) (.one (.d (.int e b))) k=K (iv k1 (max a b)):=B7 rfl rfl
@[go_sem]def ZP d a b X{K}(k:Box K):Dp ⟨d,a,b,X⟩ k=((okD d=T/\2<=z X)/\K X):=B7 rfl rfl
@[go_sem]def ZQ d a b X{K}(k:Box K):Dm ⟨d,a,b,[X]⟩ k=((okD d=T/\fC d=F)/\K X):=B7 rfl rfl
@[go_sem]def Wi t s x k ok{K}(b:Box K):pR G t s x (.one (.d k)) ok b=(match (G t).desc with
 |.map n B=>(okD (G n).desc=T/\jV (G n).desc k=T)/\match fC (G B).desc with|false=>Dm (G B) (bx λX=>match x with|.one (.mp id g kd)=>s.gen id=g/\fq kd=(G n).desc/\cA (s.obj id) (bx λcells=>K (xd ok X (mget cells k)))|.one (.d .nilm)=>K (xd ok X N)|_=>False)|true=>Dp (G B) (bx λX=>match x with|.one (.mp id g kd)=>s.gen id=g/\(200<=kd/\fq (kd-200)=(G n).desc)/\cA (s.obj id) (bx λcells=>K (pQ ok X (mget cells k)))|.one (.d .nilm)=>K (pQ ok X N)|_=>False)
 |_=>False):=by unfold pR;cases (G t).desc<;>rfl
@[go_sem]def LM t s id g kd k cs(b:Box K):fX G t s (.one (.mp id g kd)) (.one (.d k)) (.agg cs) b=(match (G t).desc with|.map n _=>(okD (G n).desc=T/\jV (G n).desc k=T)/\s.gen id=g/\(200<=kd/\fq (kd-200)=(G n).desc)/\cA (datas cs) (bx λds=>cA (s.obj id) (bx λcells=>K {s with obj:=upd s.obj id (S (mset cells k (.d (.iptr ds))))}))|_=>False):=by unfold fX;cases (G t).desc<;>rfl
@[go_sem]def QC t s id g kd k c(b:Box K):fX G t s (.one (.mp id g kd)) (.one (.d k)) (.one c) b=(match (G t).desc with|.map n _=>(okD (G n).desc=T/\jV (G n).desc k=T)/\s.gen id=g/\fq kd=(G n).desc/\cA (s.obj id) (bx λcells=>K {s with obj:=upd s.obj id (S (mset cells k c))})|_=>False):=by unfold fX;cases (G t).desc<;>rfl
@[go_sem]def Zj:qW []=S []:=B7 rfl rfl
@[go_sem]def LN f x r{K}(k:Box K):lH f (x::r) [] k=cA (qW (x::r)) (bx λl=>K (.one (.clo (f+1000000) l))):=propext ⟨λh=>h.2,λh=>⟨rfl,h⟩⟩
@[go_sem]def ZR:opA ar G ⟨dst,.move x,ty,ps,w,gd⟩ s k=K (s.put dst (s.ev x))/\opA ar G ⟨dst,.assign x,ty,ps,w,gd⟩ s k=K (s.put dst (s.ev x))/\(opA ar G ⟨dst,.nilCheck x,ty,ps,w,gd⟩ s k=lF s (s.ev x) (bx λv=>K (s.put dst v)))/\(∀{i},opA ar G ⟨dst,.extract x i,ty,ps,w,gd⟩ s k=qV (s.ev x) i (bx λv=>K (s.put dst v))):=by and_intros<;>intros<;>exact B7 rfl rfl
@[go_sem]def ZS{c a b}:opA ar G ⟨dst,.pick c a b,ty,ps,w,gd⟩ s k=tA (s.ev c) (bx λt=>K (s.put dst (if t then s.ev a else s.ev b))):=B7 rfl rfl
@[go_sem]def ZT{a}:opA ar G ⟨dst,.load t a,ty,ps,w,gd⟩ s k=yg (G t) s (s.ev a) (bx λv=>K (s.put dst v)):=B7 rfl rfl
@[go_sem]def Zk{a x}:opA ar G ⟨dst,.store t a x,ty,ps,w,gd⟩ s k=tB (G t) s (s.ev a) (s.ev x) (bx λe=>K (e.put dst uv)):=B7 rfl rfl
@[go_sem]def QD{x:Nat}:opA ar G ⟨dst,.indexAddr t (.tmp x) J,ty,ps,w,gd⟩ s k=(bif qT (G t).desc then pd G (G t).desc s (s.f x) (s.ev J) (bx λv=>K (s.put dst v))else eL G t=T/\ko s (bI G t).size (s.f x) (s.ev J) (bx λv=>K (s.put dst v))):=B7 rfl rfl
@[go_sem]def ZU{t g:Nat}:opA ar G ⟨dst,.indexAddr t (.global g) J,ty,ps,w,gd⟩ s k=bE ar ⟨dst,.indexAddr t (.global g) J,ty,ps,w,gd⟩ s k:=B7 rfl rfl
@[go_sem]def Zl{x J}:opA ar G ⟨dst,.index t x J,ty,ps,w,gd⟩ s k=(isStr (G t).desc=T/\yh (s.ev x) (s.ev J) (bx λv=>K (s.put dst v))):=B7 rfl rfl
@[go_sem]def Zm{o}{t u}{x y}:opA ar G ⟨dst,.binOp o t x y u,ty,ps,w,gd⟩ s k=Gj G (G t).desc o (s.ev x) (s.ev y) (bx λv=>K (s.put dst v)):=B7 rfl rfl
@[go_sem]def ZV:(∀{o},opA ar G ⟨dst,.unOp o t x,ty,ps,w,gd⟩ s k=unA o (s.ev x) (bx λv=>K (s.put dst v)))/\(∀{lo e},opA ar G ⟨dst,.slice t x lo e N,ty,ps,w,gd⟩ s k=(bif qT (G t).desc then pe G (G t).desc s (s.ev x) (lo.map s.ev) (e.map s.ev) (bx λv=>K (s.put dst v))else qU s (isStr (G t).desc) (eL G t) (bI G t).size (s.ev x) (lo.map s.ev) (e.map s.ev) (bx λv=>K (s.put dst v)))):=by and_intros<;>intros<;>exact B7 rfl rfl
@[go_sem]def UT{t u}:opA ar G ⟨dst,.convert t u x,ty,ps,w,gd⟩ s k=(bif isSlice (G u).desc then pU G t u ar.base dst s (s.ev x) k else xb s (bI G t).desc (G t).desc (G u).desc (s.ev x) (bx λv=>K (s.put dst v))):=B7 rfl rfl
@[go_sem]def LP{t n:Nat}:opA ar G ⟨(S d),.buildSlice t n p,ty,ps,w,gd⟩ s k=(eL G t=T/\me (bm G t) (bI G t).size (ar.base+d) d n s (p.toList.map λp=>(p.1,s.ev p.2)) k):=B7 rfl rfl
@[go_sem]def QF{l c}:opA ar G ⟨(S d),.makeSlice t l c,ty,ps,w,gd⟩ s k=(eL G t=T/\lG (bm G t) (bI G t) (ar.base+d) d s (s.ev l) (s.ev c) k):=B7 rfl rfl
@[go_sem]def adj:(opA ar G ⟨dst,.call ⟨.builtin .len,a,A⟩,ty,ps,w,gd⟩ s k=((a.size=1/\A.size=1)/\Dk s (isStr (G (A.getD 0 0)).desc) (eL G (A.getD 0 0)) (s.ev (a.getD 0 (.const .nilFunc))) (bx λv=>K (s.put dst v))))/\(opA ar G ⟨dst,.call ⟨.builtin .max,a,A⟩,ty,ps,w,gd⟩ s k=(a.size=2/\mxA T (s.ev (a.getD 0 (.const .nilFunc))) (s.ev (a.getD 1 (.const .nilFunc))) (bx λv=>K (s.put dst v)))):=by and_intros<;>exact B7 rfl rfl
@[go_sem]def Wk:opA ar G ⟨(S d),.call ⟨.builtin .append,a,A⟩,ty,ps,w,gd⟩ s k=((a.size=2/\A.size=2)/\eL G (A.getD 0 0)=T/\pO (bm G (A.getD 0 0)) (bI G (A.getD 0 0)) (isStr (G (A.getD 1 0)).desc) (eL G (A.getD 1 0)) (ar.base+d) d s (s.ev (a.getD 0 (.const .nilFunc))) (s.ev (a.getD 1 (.const .nilFunc))) k):=B7 rfl rfl
@[go_sem]def QG{t f:Nat}:opA ar G ⟨dst,.fieldAddr t x f,ty,ps,w,gd⟩ s k=kq G t f s (s.ev x) (bx λv=>K (s.put dst v)):=B7 rfl rfl
@[go_sem]def Zo{t f:Nat}:opA ar G ⟨dst,.field t x f,ty,ps,w,gd⟩ s k=vD G t f (s.ev x) (bx λv=>K (s.put dst v)):=B7 rfl rfl
@[go_sem]def Zp{t:Nat}:opA ar G ⟨dst,.build t p,ty,ps,w,gd⟩ s k=iJ G t (p.toList.map λp=>(p.1,s.ev p.2)) (bx λv=>K (s.put dst v)):=B7 rfl rfl
@[go_sem]def adk{t:Nat}:opA ar G ⟨(S d),.box t x,ty,ps,w,gd⟩ s k=QL t (ar.base+d) d s (s.ev x) k:=B7 rfl rfl
@[go_sem]def Zq{t:Nat}:opA ar G ⟨(S d),.alloc t,ty,ps,w,gd⟩ s k=BM t (G t) (ar.base+d) d s k:=B7 rfl rfl
@[go_sem]def UW:opA ar G ⟨(S d),.makeMap t N,ty,ps,w,gd⟩ s k=pg G t (ar.base+d) d s k:=B7 rfl rfl
@[go_sem]def Wl{x J}{ok}:opA ar G ⟨dst,.lookup t x J ok,ty,ps,w,gd⟩ s k=pR G t s (s.ev x) (s.ev J) ok (bx λv=>K (s.put dst v)):=B7 rfl rfl
@[go_sem]def QH{m J x}:opA ar G ⟨dst,.mapUpdate t m J x,ty,ps,w,gd⟩ s k=fX G t s (s.ev m) (s.ev J) (s.ev x) (bx λe=>K (e.put dst uv)):=B7 rfl rfl
@[go_sem]def Re{f}{first bd}:opA ar G ⟨dst,.makeFunc (.func f) first bd,ty,ps,w,gd⟩ s k=lH f (first.toList.map s.ev) (bd.toList.map s.ev) (bx λv=>K (s.put dst v)):=B7 rfl rfl
@[go_sem]def ZW{f}:opA ar G ⟨dst,.call ⟨.value f,a,A⟩,ty,ps,w,gd⟩ s k=bE ar ⟨dst,.call ⟨.value f,a,A⟩,ty,ps,w,gd⟩ s k:=B7 rfl rfl
@[go_sem]def Zr:nE b q .ret s=Q .ret s:=B7 rfl rfl
@[go_sem]def Wm:nE b q (.exit n) s=Q (.exit n) s:=B7 rfl rfl
@[go_sem]def LH:kN n q .normal s=Q .normal s/\kN n q .ret s=Q .ret s:=by and_intros<;>exact B7 rfl rfl
@[go_sem]def UX:uz q .ret s=Q .ret s:=B7 rfl rfl
@[go_sem]def UY:=y7 @cA.eq_1 (y7 @tA.eq_1 (y7 @pN.eq_1 (y7 @pN.eq_2 (y7 @isStr.eq_1 (y7 @isSlice.eq_1 (y7 @fC.eq_2 (y7 @qT.eq_1 (y7 @fC.eq_1 (y7 @yg.eq_1 (y7 @yg.eq_2 (y7 @tB.eq_1 (y7 @cellsOf.eq_1 (y7 @cellsOf.eq_2 (y7 @setAt.eq_1 (y7 @setAt.eq_2 (y7 @pd.eq_1 (y7 @ko.eq_1 (y7 @ko.eq_2 (y7 @yh.eq_1 (y7 @qQ.eq_1 (y7 @qQ.eq_2 (y7 @qQ.eq_3 (y7 @qQ.eq_4 (y7 @qQ.eq_5 (y7 @qQ.eq_6 (y7 @qQ.eq_7 (y7 @qQ.eq_8 (y7 @qQ.eq_9 (y7 @qQ.eq_10 (y7 @qQ.eq_11 (y7 @qQ.eq_12 (y7 @qQ.eq_13 (y7 @qQ.eq_16 (y7 @sameKind.eq_1 (y7 @qQ.eq_17 (y7 @sameKind.eq_2 (y7 @JU.eq_1 (y7 @JU.eq_2 (y7 @JU.eq_3 (y7 @Gj.eq_1 (y7 @Gj.eq_2 (y7 @Gj.eq_3 (y7 @Wa.eq_2 (y7 @unA.eq_1 (y7 @xb.eq_1 (y7 @xb.eq_3 (y7 @contents.eq_2 (y7 @contents.eq_3 (y7 @contents.eq_4 (y7 @pO.eq_1 (y7 @pO.eq_2 (y7 @Dk.eq_2 (y7 @Dk.eq_3 (y7 @Dk.eq_4 (y7 @lE.eq_1 (y7 @lE.eq_2 (y7 @qU.eq_1 (y7 @qU.eq_2 (y7 @qU.eq_4 (y7 @Gm.eq_1 (y7 @me.eq_1 (y7 @mT.eq_1 (y7 @kq.eq_1 (y7 @kq.eq_2 (y7 @vD.eq_1 (y7 @yi.eq_1 (y7 @iJ.eq_1 (y7 @QL.eq_1 (y7 @BM.eq_1 (y7 @lF.eq_1 (y7 @lF.eq_2 (y7 @qV.eq_1 (y7 @lG.eq_1 (y7 @jV.eq_1 (y7 @jV.eq_2 (y7 @Dl.eq_1 (y7 @Dl.eq_2 (y7 @pQ.eq_1 (y7 @pQ.eq_2 (y7 @Dn.eq_1 (y7 @datas.eq_2 (y7 @pg.eq_1 (y7 @LJ.eq_2 (y7 @qW.eq_2 (y7 @lH.eq_1 (y7 @pU.eq_1 (y7 @St.ev.eq_1 (y7 @St.ev.eq_2 (y7 @St.ev.eq_4 (y7 @BL.eq_1 (y7 @BL.eq_2 (y7 @BL.eq_3 (y7 @BL.eq_4 (y7 @BL.eq_5 (y7 @nE.eq_1 (y7 @kN.eq_1 @St.newC.eq_1))))))))))))))))))))))))))))))))))))))))))))))))))))))))))))))))))))))))))))))))))))))))))))))))
section steps
variable{f:Nat->AV}{g:Nat->Nat}{ob:Nat->Option (List C)}{Q:Exit->St->Prop}{q:Box Q}{K:St->Prop}{k:Box K}{ops:Array Oper}{rest:List Oper}
@[go_sem]def ZX:wpC ar G .skip q ⟨f,g,ob⟩=Q .normal ⟨f,g,ob⟩:=B7 rfl rfl
@[go_sem]def Zs:wpC ar G (.label n) q ⟨f,g,ob⟩=Q .normal ⟨f,g,ob⟩:=B7 rfl rfl
@[go_sem]def Zt:wpC ar G (.scope c) q ⟨f,g,ob⟩=wpC ar G c (bx (uz q)) ⟨f,g,ob⟩:=B7 rfl rfl
@[go_sem]def ZY:wpC ar G (.region n l.toArray T) q ⟨f,g,ob⟩=nF ar G n l.toArray ⟨f,g,ob⟩ q:=B7 rfl rfl
@[go_sem]def Wo:wpC ar G (.region n l.toArray F) q ⟨f,g,ob⟩=wpO ar G l.toArray l ⟨f,g,ob⟩ (bx λe=>Q .normal e):=by simp[wpC]
@[go_sem]def adm{x y}:wpC ar G (.seq x y) q ⟨f,g,ob⟩=wpC ar G x (bx (nE (bx λe=>wpC ar G y q e) q)) ⟨f,g,ob⟩:=B7 rfl rfl
@[go_sem]def ZZ{c}{x y}:wpC ar G (.cond c x y) q ⟨f,g,ob⟩=tA (St.ev ⟨f,g,ob⟩ c) (bx λb=>if b then wpC ar G x q ⟨f,g,ob⟩else wpC ar G y q ⟨f,g,ob⟩):=B7 rfl rfl
@[go_sem]def Zu:wpC ar G (.block n c) q ⟨f,g,ob⟩=wpC ar G c (bx (kN n q)) ⟨f,g,ob⟩:=B7 rfl rfl
@[go_sem]def aaa:wpC ar G (.loop c) q ⟨f,g,ob⟩=uy ar (bx λQ s=>wpC ar G c (bx Q) s) q ⟨f,g,ob⟩:=B7 rfl rfl
@[go_sem]def aab:wpC ar G (.exit n) q ⟨f,g,ob⟩=Q (.exit n) ⟨f,g,ob⟩:=B7 rfl rfl
@[go_sem]def adn:wpC ar G .ret q ⟨f,g,ob⟩=Q .ret ⟨f,g,ob⟩:=B7 rfl rfl
@[go_sem]def ado:wpO ar G ops [] ⟨f,g,ob⟩ k=K ⟨f,g,ob⟩:=B7 rfl rfl
@[go_sem]def aac{op}:wpO ar G ops (⟨dst,op,ty,ps,w,N⟩::rest) ⟨f,g,ob⟩ k=opA ar G ⟨dst,op,ty,ps,w,N⟩ ⟨f,g,ob⟩ (bx λe=>wpO ar G ops rest e k):=B7 rfl rfl
@[go_sem]def aad{op}{j}{n}:wpO ar G ops (⟨dst,op,ty,ps,w,S (j,n)⟩::rest) ⟨f,g,ob⟩ k=cA ((ops[j]?).bind (·.dst)) (bx λd=>pN (f d) (bx λb=>if b=n then opA ar G ⟨dst,op,ty,ps,w,S (j,n)⟩ ⟨upd f d (bv b),g,ob⟩ (bx λe=>wpO ar G ops rest e k)else wpO ar G ops rest (St.put ⟨upd f d (bv b),g,ob⟩ dst uv) k) (bx (wpO ar G ops rest (St.put ⟨f,g,ob⟩ dst uv) k))):=B7 rfl rfl
end steps
@[go_sem]def St.put_some(s:St) d v:s.put (S d) v = {s with f:=upd s.f d v}:=B7 rfl rfl
@[go_sem]def St.put_none(s:St) v:s.put N v=s:=B7 rfl rfl
@[go_sem]def Zv:=@upd.eq_1
attribute [go_sem] Nat.reduceEqDiff Nat.reduceAdd Nat.reduceMul Nat.reduceSub Nat.reduceLT Nat.reduceLeDiff Int.reduceLT Int.reduceLE Int.reduceEq Int.reduceNe Int.reduceAdd Int.reduceNeg Int.reduceToNat
attribute [go_sem] if_true if_false ite_true ite_false and_true true_and List.length_map List.length_cons List.length_nil List.size_toArray Option.bind_some Option.map_some Option.map_none Option.bind_none cond_true cond_false List.append_nil List.cons_append List.set_cons_zero List.set_cons_succ List.set_nil List.drop_succ_cons List.take_succ_cons List.take_zero
attribute [go_sem] Array.getD_eq_getD_getElem? List.getElem?_toArray List.getElem?_cons_zero List.getElem?_cons_succ List.getElem?_nil Option.getD_some Option.getD_none List.getElem?_map
attribute [go_sem] List.drop_zero List.take_length Nat.mul_one Nat.zero_add List.map_cons List.map_nil List.nil_append reduceCtorEq not_true_eq_false not_false_eq_true implies_true Bool.not_true Bool.not_false Bool.true_eq_false Bool.false_eq_true
attribute [go_sem] Option.some.injEq Option.isSome_some decide_true decide_false ne_eq Int.toNat_natCast
end Go.Am


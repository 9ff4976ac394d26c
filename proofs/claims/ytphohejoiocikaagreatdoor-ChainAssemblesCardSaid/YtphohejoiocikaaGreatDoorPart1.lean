/- A part of the proof; no conditions. -/
import Derived.KernelRfl
import Derived.StillTail
import Derived.Deep.Quiet
set_option linter.unusedSimpArgs false
set_option linter.unusedVariables false
namespace Go
section
theorem a6 {P:Prop} (h:P:=by omega):P:=h
theorem a7 {P:Prop} (h:P:=by simp):P:=h
theorem a8 {P:Prop} (h:P:=by decide):P:=h
theorem b0 {P:Prop} (h:P:=by decide +kernel):P:=h
theorem b5 {P:Prop} (h:P:=by rfl):P:=h
theorem b6 {P:Prop} (h:P:=by kernel_rfl):P:=h
abbrev b7:=@List.length_map
abbrev b8:=@Eq.trans
abbrev b9:=@Nat.le_refl
abbrev c9:=@List.length_append
abbrev e8:=@List.length_cons
abbrev j0:=@List.getElem?_eq_some_iff
abbrev j4:=@List.take_of_length_le
abbrev j5:=@List.eq_nil_of_length_eq_zero
abbrev j6:=@True.intro
abbrev j7:=@Array.getD_eq_getD_getElem?
abbrev j8:=@List.map_cons
abbrev l4:=@List.mem_of_getElem?
abbrev l5:=@Bool.and_eq_true
abbrev l6:=@List.drop_of_length_le
abbrev l7:=@List.all_eq_true
abbrev l8:=@List.getElem?_map
abbrev l9:=@Option.some.injEq
abbrev n0:=@List.map_nil
abbrev n9:=@List.length_nil
abbrev o9:=@Array.getElem?_eq_getElem
abbrev p7:=@List.getElem?_eq_getElem
abbrev r0:=@Option.map_some
abbrev r9:=@List.length_drop
abbrev s5:=@Option.getD_some
abbrev s6:=@decide_eq_false
abbrev s7:=@List.mem_cons
abbrev s8:=@List.getElem?_cons_succ
abbrev s9:=@Array.getElem?_eq_some_iff
abbrev u7:=@List.not_mem_nil
abbrev v7:=@List.getElem?_cons_zero
abbrev v8:=@List.getElem?_eq_none
abbrev w7:=@Array.getElem?_replicate
abbrev w8:=@List.all_cons
abbrev w9:=@decide_eq_true
abbrev y1:=@List.append_nil
abbrev y2:=@List.getElem?_toArray
abbrev y7:=@List.flatMap_cons
abbrev y8:=@List.length_take
abbrev z1:=@Nat.add_assoc
abbrev z6:=@Nat.le_trans
abbrev z7:=@List.drop_eq_getElem_cons
abbrev z8:=@decide_eq_true_eq
abbrev A0:=@Bool.true_and
abbrev A1:=@if_false
abbrev A2:=@List.mem_range
abbrev A3:=@Nat.zero_add
abbrev A4:=@List.getElem?_drop
abbrev A5:=@List.cons_append
abbrev A6:=@List.flatten_cons
abbrev A7:=@Array.getElem?_append_left
abbrev A8:=@List.mem_map
abbrev A9:=@if_true
abbrev B1:=@Bool.or_eq_true
abbrev B3:=@Option.some.inj
abbrev B4:=@List.getElem?_of_mem
abbrev B5:=@Array.getElem_mem_toList
abbrev B6:=@List.takeWhile_cons
abbrev B7:=@Nat.mod_eq_of_lt
abbrev B8:=@Bool.false_and
abbrev B9:=@List.take_add_one
abbrev C0:=@Nat.add_mul
abbrev C1:=@List.takeWhile_sublist
abbrev C2:=@Array.getElem?_toList
abbrev C3:=@Array.getElem?_append_right
abbrev C4:=@Bool.not_eq_true'
abbrev C5:=@Ne.symm
abbrev C6:=@List.drop_drop
abbrev C7:=@Nat.lt_of_le_of_lt
abbrev C8:=@List.mem_singleton
abbrev C9:=@eq_true
abbrev D0:=@Classical.byContradiction
abbrev D1:=@beq_iff_eq
abbrev D2:=@List.append_assoc
abbrev D3:=@List.contains_iff_mem
abbrev D4:=@List.all_append
abbrev D5:=@List.getElem?_take
abbrev D6:=@Option.bind_some
abbrev D7:=@List.getD_eq_getElem?_getD
abbrev D8:=@of_decide_eq_true
abbrev D9:=@Array.getElem?_eq_none
abbrev E0:=@or_false
abbrev E1:=@List.isPrefixOf_iff_prefix
abbrev E2:=@List.map_append
abbrev E3:=@List.take_append_drop
abbrev E4:=@Nat.le_of_ble_eq_true
abbrev E5:=@Array.ext'
abbrev E6:=@Option.isSome_iff_exists
abbrev E7:=@List.drop_zero
abbrev E8:=@List.getElem?_append
abbrev E9:=@List.take_zero
abbrev F0:=@List.getElem?_append_right
abbrev F8:=@Nat.lt_of_lt_of_le
abbrev F9:=@List.takeWhile_cons_of_pos
abbrev G0:=@List.length_singleton
abbrev G1:=@Bool.eq_iff_iff
abbrev G2:=@Int.toNat_natCast
abbrev G3:=@Nat.add_zero
abbrev G4:=@List.mem_of_mem_take
abbrev G5:=@Array.getElem?_setIfInBounds_ne
abbrev G6:=@List.drop_succ_cons
abbrev G7:=@List.flatMap_append
abbrev G8:=@List.take_length
abbrev G9:=@List.filter_eq_nil_iff
abbrev H0:=@UInt8.toNat_ofNat'
abbrev H2:=@Array.getElem?_setIfInBounds
abbrev H3:=@List.foldl_cons
abbrev H4:=@Array.getElem?_setIfInBounds_self_of_lt
abbrev H5:=@Nat.mul_one
abbrev H6:=@List.mem_of_mem_drop
abbrev H7:=@List.takeWhile_cons_of_neg
abbrev H8:=@List.getElem?_append_left
abbrev H9:=@Array.length_toList
abbrev J0:=@UInt8.toNat_inj
abbrev J1:=@Option.isSome_some
abbrev J2:=@Array.all_eq_true'
abbrev J3:=@Option.isSome_none
abbrev J4:=@Nat.add_sub_cancel_left
abbrev J5:=@List.prefix_iff_eq_take
abbrev J6:=@List.mapM_cons
abbrev J7:=@Option.map_eq_some_iff
abbrev J8:=@List.drop_take
abbrev J9:=@Array.getElem?_modify
abbrev K0:=@List.any_eq_true
abbrev K1:=@Array.eq_empty_of_size_eq_zero
abbrev K2:=@Prod.mk.injEq
abbrev K3:=@Array.mem_toList_iff
abbrev K4:=@Nat.mul_le_mul_right
abbrev K5:=@Nat.le_succ
abbrev K6:=@List.nil_append
abbrev K7:=@List.cons.injEq
abbrev K8:=@Nat.le_antisymm
abbrev K9:=@List.mem_append
abbrev Ly:=@List.take_succ_cons
abbrev Lz:=@Array.getElem?_push
abbrev LA:=@List.dropWhile_cons
abbrev LB:=@decide_false
abbrev LC:=@Nat.sub_self
abbrev LD:=@Nat.add_comm
abbrev LF:=@Nat.le_of_lt
abbrev LG:=@List.count_pos_iff
abbrev LH:=@Option.isNone_iff_eq_none
abbrev LI:=@List.mem_of_find?_eq_some
abbrev LJ:=@not_true_eq_false
abbrev LK:=@decide_true
abbrev LL:=@Array.getElem_mem
abbrev LM:=@List.mapM_toArray
abbrev LN:=@Bool.not_true
abbrev LO:=@Bool.false_or
abbrev LP:=@Array.size_setIfInBounds
abbrev LQ:=@List.eq_of_mem_replicate
abbrev LR:=@and_true
abbrev LS:=@Option.getD_none
abbrev LU:=@List.map_map
abbrev LV:=@List.mem_filter
abbrev LW:=@List.length_set
abbrev LX:=@Array.mem_of_getElem?
abbrev LY:=@List.takeWhile_prefix
abbrev LZ:=@Nat.zero_le
abbrev L0:=@Bool.and_false
abbrev L1:=@cond_false
abbrev L2:=@cond_true
theorem L3 {P:Prop}(h:P:=by simp only[go_sem,n1,n2,n3,n4,n5,n6,n7,n8,x1,x2,x3,x4,x5,x6,x7,x8,x9,y9]):P:=h
theorem L4 {P:Prop}(h:P:=by
 rintro n f g' ob' ⟨k,hk,q0,q4,q3,q⟩
 simp only at q0 q4 q3 q
 have hw:=ag (k:=k) a6
 by_cases hlt:k<32
 ·have hlti:(k:Int)<32:=a6
  have hvl:a/2^k<4294967296:=C7 (Nat.div_le_self _ _) ha
  have hv2:a/2^(k+1)=a/2^k/2:=by rw[Nat.pow_succ,Nat.div_div_eq_div_mul]
  have htk:=qC (a:=a) hlt
  generalize a/2^k=v at q0 hvl hv2 htk
  have hm:(v:Int).tmod 2=((v%2:Nat):Int):=rfl
  have hd:(v:Int).tdiv 2=((v/2:Nat):Int):=rfl
  have hwm:IntKind.i64.wrap ((v%2:Nat):Int)=((v%2:Nat):Int):=by rw[wrap_i64] <;> omega
  have hwm2:IntKind.u32.wrap ((v%2:Nat):Int)=((v%2:Nat):Int):=gS a6
  have hwd:IntKind.u32.wrap ((v/2:Nat):Int)=((v/2:Nat):Int):=gS a6
  rcases q3 with⟨hk0,q3⟩|⟨hk0,q3,qo⟩
  ·simp only[go_sem,q0,q3,q4,hlti,hm,hd,hwm,hwm2,hwd,hw]
   refine⟨⟨a8,a8⟩,?_⟩
   refine bH (P:=Tryz.prog) (n-1) a6 ⟨k+1,a6,?_⟩
   simp only[go_sem,hv2]
   subst hk0
   refine⟨.inr ⟨a6,rfl,?_⟩,fun i hi=>?_⟩
   ·rw[htk];rfl
   ·(repeat rw[if_neg (by omega)]);exact q i hi
  ·simp only[go_sem,q0,q3,q4,qo,hlti,hm,hd,hwm,hwm2,hwd,hw]
   refine⟨by simp[fO,cd];omega,⟨a8,a6⟩,?_⟩
   refine bH (P:=Tryz.prog) (n-1) a6 ⟨k+1,a6,?_⟩
   simp only[go_sem,hv2]
   refine⟨.inr ⟨a6,?_⟩,fun i hi=>?_⟩
   ·rw[htk,j4 (by simp[fO,cd];omega)];simp[fO]
   ·(repeat rw[if_neg (by omega)]);exact q i hi
 ·have hlti:¬(k:Int)<32:=a6
  obtain rfl:k=32:=a6
  rcases q3 with⟨hk0,q3⟩|⟨hk0,q3,qo⟩
  ·omega
  rw[j4 (by rw[cd];decide)] at qo
  simp only[go_sem,q0,q3,q4,show ¬((32:Nat):Int)<32 by decide]
  exact tj (.inl rfl) ⟨by simp[je,upd],qo,q⟩):P:=h
theorem L5 {P:Prop}(h:P:=by
 simp only[Oper.upon]
 have hargs:∀l:List Operand,(l.map s.ev).all dr=true→RVs (Imm b₀ β s.obj w) w (l.map s.ev) (l.map a.eval):=by
  intro l
  induction l with
  |nil=>intro _;simp only[n0,RVs]
  |cons x l ih=>
    intro h
    simp only[j8,w8,l5] at h
    simp only[j8,RVs]
    exact⟨_,_,rfl,ab.data h.1 (hr.ev x),ih h.2⟩
 have:=hp.2 (Imm b₀ β s.obj w) w (args.toList.map a.eval) (fun _ h=>h.1) (hargs _ hd)
 rw[show (args.toList.map a.eval).toArray=args.map a.eval from E5 a7] at this
 refine this.mono fun e w' ⟨v,r,he,hR,hs,hh,hos,hv⟩=>?_
 subst he
 obtain⟨g1,g2⟩:=hr.grow hs hh hos
 refine hn _ β _ w' ⟨r,hR,rfl⟩ (g1.put hdst (RV.rep r (RV.mono (fun b hb=>⟨ra hr (fun _ h=>h) hb,rfl⟩) r hv))) (g2.trans (Tr.same (St.put_gen _ _ _) (St.put_obj _ _ _) rfl))):P:=h
theorem L6 {P:Prop}(h:P:=by
 have:∀(es:List (List D)) (_:∀e∈es,e.length=sz) i,es[i]? = some e→es.flatten[i*sz+j]? = some x:=by
  intro es
  induction es with
  |nil=>intro _ i h;simp at h
  |cons e' es ihe=>
    intro hs i h
    have hl:=hs e' a7
    cases i with
    |zero=>
      simp at h
      subst h
      rw[A6,H8 (by simpa using(j0.1 hx).1)]
      simpa using hx
    |succ i=>
      rw[A6,F0 (by rw[hl,C0];omega),hl,show (i+1)*sz+j-sz=i*sz+j by rw[C0];omega]
      exact ihe (fun e h=>hs e (by simp[h])) i (by simpa using h)
 exact this es hsz i he):P:=h
theorem L7 {P:Prop}(h:P:=by
 have:(vs.toArray++Array.replicate (fn.ntmps-vs.toArray.size) undef).getD i undef=undef:=by
  rw[j7,C3 (by simp;omega)]
  simp[w7]
  split <;> rfl
 rw[this]
 exact bJ):P:=h
theorem L8 {P:Prop}(h:P:=by
 refine nP aa rfl hS (by simp only[go_sem,n1,n2,n3,n4,n5,n6,n7,n8,x1,x2,x3,x4,x5,x6,x7,x8,x9,y9,dM];try rfl) (h.re (B+251) σ1 (by omega) (fun i hi=>by (try simp only[upd]);(repeat rw[if_neg (by omega)]);exact h.free i (by omega)) (fun i hi h1 h2=>by constructor <;> ((try simp only[upd]);(repeat rw[if_neg (by omega)]))) (by simp only[go_sem,n1,n2,n7,n8]) (by simp only[go_sem,n7,n8])) (fun g2=>?_)
 simp only[go_sem]
 refine⟨_,al.refl _,?_⟩
 simp only[go_sem]
 refine mC.ends hB hX.1 hW (fun i hi h1 h2 h3 h4=>by constructor <;> ((try simp only[upd]);(repeat rw[if_neg (by omega)]))) ?_ ?_ ?_ ?_ ?_ ?_ ?_
 ·exact L3
 ·exact L3
 ·exact L3
 ·exact L3
 ·exact L3
 ·exact L3
 ·exact L3):P:=h
theorem L9 {P:Prop}(h:P:=by
 obtain rfl:z=false:=by
  have:¬el=[]:=fun e=>by rw[e] at hel;exact absurd hel a8
  rw[←hz];simp[bK,this]
 simp only[go_sem,hlv,b7,hel]):P:=h
theorem Ma {P:Prop}(h:P:=by simp only[go_sem]):P:=h
theorem Mb {P:Prop}(h:P:=by
 have e1:=congrFun hset
 simp only[upd] at e1
 rw[e1] at hj ⊢
 by_cases hej:e.on=i
 ·rw[if_pos hej]
 ·rw[if_neg hej]
  by_cases hji:j=i
  ·subst hji
   rw[ho] at hoj
   cases hoj
   exact hedge e he hb
  ·rw[if_neg hji] at hj
   exact hid j o' hj hoj e he hb):P:=h
theorem Mc {P:Prop}(h:P:=by
 refine this.mono fun e w' hE=>?_
 rcases hE with⟨v,r,g',ob',β',he,hR,hv,h1,h2,h3⟩|⟨ch,g',ob',β',he,hΨ,h1,h2,h3⟩
 ·subst he
  obtain⟨k1,k2⟩:=ic hr hdst hv h1 h2 h3
  exact⟨k1.defers,hn _ β' _ w' ⟨r,g',ob',hR,rfl⟩ k1 (hΦ _ _ _ _ _ _ _ hφ k2)⟩
 ·subst he
  have hk:dO b₀ β s.gen s.obj w β' g' ob' w':=h3.keep
  have ht:Tr b₀ β s w β' ⟨s.f,g',ob'⟩ w':=⟨h3.size,h3.old,hk,h3.os⟩
  exact hx' ch ⟨s.f,g',ob'⟩ β' a w' (hx _ _ _ hΨ) ⟨hr.defers,hr.size,fun i=>ab.keep hk _ (hr.f i),h1,h2,z6 hr.base h3.size⟩ (hΦ _ _ _ _ _ _ _ hφ ht)):P:=h
theorem Md {P:Prop}(h:P:=by
 obtain rfl:z=false:=by
  have:¬th=[]:=fun e=>by rw[e] at hth;exact absurd hth a8
  rw[←hz];simp[bK,this]
 simp only[go_sem,hlv,b7,hel,hth]):P:=h
theorem Me {P:Prop}(h:P:=by exact lW hz (by simp[upd]) (by simp[upd,exC,exD])):P:=h
theorem Mf {P:Prop}(h:P:=by
 refine⟨_,al.refl _,?_⟩
 simp only[go_sem]
 refine ku.ends hB (fun i hi h1 h2=>by constructor <;> ((try simp only[upd]);(repeat rw[if_neg (by omega)]))) ?_ ?_ ?_
 ·simp only[go_sem,n1,n2]
 ·simp only[go_sem,n1,n2,n7,n8]
 ·simp only[go_sem,n7,n8]):P:=h
theorem Mg {P:Prop}(h:P:=by
 have hall:∀i,i<ops.size→listed.getD i true=true:=fun i hi=>by
  have hnf:false∉listed.toList:=fun h=>by
   have:=LG.2 h;omega
  rw[j7,o9 a6]
  simp only[s5]
  cases hq:listed[i]'a6 with
  |true=>rfl
  |false=>exact absurd (hq▸K3.2 (LL a6)) hnf
 have hrd:Region.ready .any ops listed=[]:=by
  unfold Region.ready
  rw[G9]
  intro i hi
  simp[hall i (A2.1 hi)]
 exact⟨hrd,hQ _ s β a w hI hr hφ ⟨listed,rfl,hsz,hrd⟩⟩):P:=h
theorem Mh {P:Prop}(h:P:=by
 obtain rfl:z=false:=by rw[←hz];simp[ba,hop]
 simp only[go_sem,hlv,hop]):P:=h
theorem Mi {P:Prop}(h:P:=by
 unfold jo eH pX
 by_cases h1:code.length≤16384
 ·have h1i:((code.length:Nat):Int)≤16384:=a6
  by_cases h0:0≤d
  ·by_cases h2:d≤32768
   ·rw[w9 ⟨h1,h0,h2⟩]
    simp only[go_sem,b7,h1i,h2,h0]
   ·rw[s6 (fun h=>h2 h.2.2)]
    simp only[go_sem,b7,h1i,h2,h0]
  ·rw[s6 (fun h=>h0 h.2.1)]
   simp only[go_sem,b7,h1i,h0]
 ·have h1i:¬((code.length:Nat):Int)≤16384:=a6
  rw[s6 (fun h=>h1 h.1)]
  simp only[go_sem,b7,h1i]):P:=h
theorem Mj {P:Prop}(h:P:=by
 rw[hend]
 rcases q5 with⟨rfl,q5⟩|⟨hne,q5,o5⟩
 ·simp only[go_sem,q0,q6,q5,hlti]
  exact⟨_,⟨_,⟨_,_,rfl,cc .nsl,_,_,rfl,cc _,_,_,rfl,cc _,rfl⟩,rfl⟩,rfl⟩
 ·simp only[go_sem,q0,q6,q5,hlti]
  exact⟨_,⟨_,⟨_,_,rfl,vX (jz rfl l fB (by simp[upd,o5,me]) rfl (fun t _ x hx=>by simp only[fB,s7,u7,E0] at hx;rcases hx with rfl|rfl|rfl|rfl <;> rfl) (fun _ _=>rfl) rfl),_,_,rfl,cc _,_,_,rfl,cc _,rfl⟩,rfl⟩,rfl⟩):P:=h
theorem Ml {P:Prop}(h:P:=by
 simp only[go_sem,hlv,hop,hnu,hnm]
 by_cases hkn:(kids.length:Int)=2
 case neg=>
  obtain rfl:z=false:=by
   have:¬kids.length=2:=a6
   rw[←hz];simp[ba,this]
  simp only[go_sem,b7,hkn]
 simp only[go_sem,b7,hkn,hwl]
 refine aV rfl (by simp only[go_sem,hwl];exact hK) ?_
 rintro _ rfl
 obtain rfl:z=bf (lv+1) kids:=by
  have:kids.length=2:=a6
  rw[←hz];simp[ba,ai,hle,this,hnm,hnu,hop]
 exact Ma):P:=h
theorem Mm {P:Prop}(h:P:=by
 unfold dD
 refine PR.bind_cong rfl fun t m e=>?_
 have hm:=bt _ _ e
 refine PR.bind_cong ?_ fun _ _ _=>rfl
 split
 ·rw[bM k 1 (m+1) a6 a6]
 split
 ·refine PR.bind_cong (bM k 1 (m+1) a6 a6) fun _ q e'=>PR.bind_cong rfl fun _ q' e2=>PR.bind_cong (bM k 1 q' a6 ?_) fun _ _ _=>rfl
  have:=aU _ _ _ _ _ e'
  have:=ay _ _ e2
  omega
 split
 ·rw[lE k (m+1) a6]
 ·rfl):P:=h
theorem Mn {P:Prop}(h:P:=by
 obtain rfl:z=false:=by rw[←hz];simp[ba,hnu]
 simp only[go_sem,hlv,hop,hnu]):P:=h
theorem Mo {P:Prop}(h:P:=by
 obtain⟨v,h1,h2⟩:=hget _ _ hv i x hx
 have hlt:i<vs.length:=(j0.1 h1).1
 have:(vs.toArray++Array.replicate (fn.ntmps-vs.toArray.size) undef).getD i undef=v:=by
  rw[j7,A7 (by simpa using hlt)]
  simp[h1]
 rw[this]
 simp only[s5]
 exact RV.rep x (RV.mono (fun b hb=>⟨⟨hJ b hb,fun _=>hb,fun id a ho=>by cases ho⟩,rfl⟩) x h2)):P:=h
theorem Mp {P:Prop}(h:P:=by
 obtain⟨h1,h2,h3⟩:=h
 refine⟨h1,z6 h2 (hk.gen id),fun hg ho=>?_⟩
 have e:g' id=g id:=K8 a6 (hk.gen id)
 obtain⟨l1,l2,_⟩:=hk.live id e ho
 rw[l2];exact h3 a6 l1):P:=h
theorem Mq {P:Prop}(h:P:=by exact⟨z,cv,h1,fun w' hw'=>by simp[execOp,h2 w' hw'],h3⟩):P:=h
theorem Mr {P:Prop}(h:P:=by
 rw[h1] at hc
 cases hc
 simp only[rnC,s7,u7,E0] at hcc
 rcases hcc with rfl|rfl|rfl|rfl|rfl|rfl|rfl|rfl|rfl|rfl|rfl <;> first|trivial|(show _<B;omega)):P:=h
theorem Ms {P:Prop}(h:P:=by
 simp only[go_sem]
 exact hK):P:=h
theorem Mt {P:Prop}(h:P:=by
 obtain rfl:z=false:=by
  have:¬e.length=1:=a6
  rw[←hz];simp[bK,this]
 simp only[go_sem,b7,hn]):P:=h
theorem Mu {P:Prop}(h:P:=by
 refine⟨y,cv,q1,fun w' hw'=>?_,q3⟩
 have q2:=q2 w' hw'
 simp only[Sem.run_pure,Result.ok.injEq,LR] at q2
 subst q2
 have hf:(Instr.findKey kt (dV k0) []).run P w'=.ok none w':=MapKept.run_findKey hk rfl
 simp[Instr.lookup,run_underlying hu,hck,hf,hzr]):P:=h
theorem Mv {P:Prop}(h:P:=by
 refine⟨y,cv,q1,fun w' hw'=>?_,q3⟩
 have q2:=q2 w' hw'
 rw[g2] at q2
 simp only[Sem.run_pure,Result.ok.injEq,LR] at q2
 subst q2
 simp[Instr.lookup,run_underlying hu,MapKept.run_getObj_map (hw'.cells hblk),hck,MapKept.run_findKey hk g1,hzr]):P:=h
theorem Mw {P:Prop}(h:P:=by exact wpIn_mono (hR N β a ds w hc hr hφ) (fun e a' w' ⟨s',β',a0,ds',h0,h1,h2,h3⟩=>⟨s',β',a0,ds',h0,h1.imp (hK _ _) (fun h=>h),h2,h3⟩)):P:=h
theorem Mx {P:Prop}(h:P:=by
 have:(fun i=>(Array.replicate ops.size false).getD i false)=fun _=>false:=by
  funext i
  rw[j7,w7]
  split <;> rfl
 rw[this];exact h0):P:=h
theorem My {P:Prop}(h:P:=by
 obtain⟨v,h1,h2⟩:=hv.get hx
 have hlt:i<vs.length:=(j0.1 h1).1
 have:(vs.toArray++Array.replicate (fn.ntmps-vs.toArray.size) undef).getD i undef=v:=by
  rw[j7,A7 (by simpa using hlt)]
  simp[h1]
 rw[this]
 simpa only[s5] using h2):P:=h
theorem Mz {P:Prop}(h:P:=by
 exfalso
 obtain⟨e,he,ho,htb⟩:=hent i hi
 obtain⟨e',he',ho',htb'⟩:=hent j hj
 simp only[dst,ho,ho',D6] at h1 h2
 rcases(hchk i e hi ho htb).2.1 j e'.o hj a6 ho' with h|h
 ·rw[h] at h2;cases h2
 ·exact h (by rw[h1,h2])):P:=h
theorem MA {P:Prop}(h:P:=by
 simp only[upd,j7,H2]
 by_cases hj:i=j
 ·subst hj;simp[hsz,hi1]
 ·have:¬j=i:=fun e=>hj e.symm
  simp[hj,this]):P:=h
theorem MB {P:Prop}(h:P:=by exact .sl (sz:=sz) (fun _ _=>undef) a7 (fun h=>absurd rfl h) (fun _ h=>by cases h) (fun _ _ h=>by cases h) (fun _ _ h=>by cases h)):P:=h
theorem MC {P:Prop}(h:P:=by
 have hty:=(hT t (by rw[hd];rfl)).desc
 rw[hd] at hty
 refine du h fun w=>?_
 rw[Sem.run_bind,ee _ _ _ _ _ _ a7 a7]
 simp only[binOp,Sem.run_bind,Result.andThen_ok,run_equal_bool hty,Sem.run_pure]
 cases a <;> cases b <;> rfl):P:=h
theorem MD {P:Prop}(h:P:=by
 obtain rfl:z=false:=by
  have:¬kids=[]:=fun e=>hkn (by rw[e];rfl)
  rw[←hz];simp[ba,this]
 simp only[go_sem,b7,hkn]):P:=h
theorem ME {P:Prop}(h:P:=by
 by_cases hop:op=0
 case neg=>
  exact Mh
 by_cases hnu:num=0
 case neg=>
  exact Mn
 by_cases hnm:name=[]
 case neg=>
  obtain rfl:z=false:=by rw[←hz];simp[ba,ai,hnm]
  simp only[go_sem,hlv,hop,hnu,hnm]
 exact Ml):P:=h
theorem MF {P:Prop}(h:P:=by exact cC hex ⟨hr'.defers,hn _ β _ w rfl hr' (hΦ _ _ _ _ _ _ _ hφ (Tr.same (St.put_gen _ _ _) (St.put_obj _ _ _) rfl))⟩):P:=h
theorem MG {P:Prop}(h:P:=by exact⟨_,cn (k:=0) (v:=0) (e:=3) (n:=0),rfl⟩):P:=h
theorem MH {P:Prop}(h:P:=by
 refine⟨h.1,h0.2.1,fun hg ho=>?_⟩
 obtain⟨l1,l2,l3⟩:=hl id ho
 rw[←l2];exact h.2.2 (by rw[l1];exact hg) l3):P:=h
theorem MI {P:Prop}(h:P:=by
 have hki:¬(k:Int)<(l.length:Int):=a6
 rw[l6 a6] at hc
 obtain rfl:z=true:=hc.symm
 simp only[go_sem,q1,q5,hki,b7]):P:=h
theorem MJ {P:Prop}(h:P:=by
 rw[hq] at hc
 simp only[r0,l9] at hc
 subst hc
 refine⟨_,rfl,?_⟩
 simp only[aj]
 exact bm.of_plain (by have:=hty.plain;rw[l7] at this;exact this x (l4 hq))):P:=h
theorem MK {P:Prop}(h:P:=by exact⟨_,⟨_,⟨_,_,rfl,cc .nsl,_,_,rfl,cc _,_,_,rfl,cc _,rfl⟩,rfl⟩,rfl⟩):P:=h
theorem ML {P:Prop}(h:P:=by exact⟨hr'.defers,v,h1,v,r,rfl,h2,ht.size,fun b hb=>ht.old b hb,ht.os,h3⟩):P:=h
theorem MM {P:Prop}(h:P:=by exact⟨_,al.refl _,rfl,rfl,rfl⟩):P:=h
theorem MN {P:Prop}(h:P:=by
 simp only[go_sem,n1,n2] at hK ⊢
 refine aA (k:=bx K') aa rfl hc2 (by simp only[go_sem,n1,n2];all_goals rfl) (B+101) a6 (fi hf1) (by simp only[go_sem,n1,n2]) ?_
 simp only[go_sem,n1,n2]
 exact hK):P:=h
theorem MO {P:Prop}(h:P:=by exact gI (.inl rfl) ⟨rfl,fun i hi=>by simp only[upd];(repeat rw[if_neg (by omega)]);exact⟨rfl,rfl⟩⟩):P:=h
theorem MP {P:Prop}(h:P:=by
 rintro _ rfl
 unfold wZ
 cases hR:cQ (w/16777216:Nat) (w/1048576%16:Nat) (w/65536%16:Nat) (w%65536:Nat)
 ·simp only[go_sem,fP]
  exact⟨_,nU,rfl⟩
 ·simp only[go_sem,fP]
  exact⟨_,nU,rfl⟩):P:=h
theorem MQ {P:Prop}(h:P:=by exact wp_mono (hR b₀ N β a w hc hr) (fun e a' w' ⟨s',β',h1,h2,h3⟩=>⟨s',β',hK _ _ h1,h2,h3⟩)):P:=h
theorem MR {P:Prop}(h:P:=by
 simp only at h1 h2 ⊢
 omega):P:=h
theorem MS {P:Prop}(h:P:=by exact⟨_,cm (k:=0) (v:=0) (e:=3),rfl⟩):P:=h
theorem MT {P:Prop}(h:P:=by
 rintro _ g3 ob3 ⟨rfl,hB3,_,_,hfree3⟩
 simp only[go_sem,q23,hw]
 refine ar (n-1) a6 ⟨k+1,a6,?_⟩
 simp only[go_sem,q4,q21,q22]
 rw[htk,←D2]
 exact⟨rfl,hB3,hfree3⟩):P:=h
theorem MU {P:Prop}(h:P:=by
 refine⟨_,al.refl _,?_⟩
 simp only[go_sem]
 exact mA (lJ) rfl):P:=h
theorem MV {P:Prop}(h:P:=by
 obtain rfl:z=false:=by rw[←hz];simp[bK,ai,hnm,fz]
 simp only[go_sem,b7,hlv,hel,hth,hnm]):P:=h
theorem MW {P:Prop}(h:P:=by
 simp only[St.newC,upd];split
 ·rename_i he;subst he;exact LF (qF _ _)
 ·exact b9 _):P:=h
theorem MX {P:Prop}(h:P:=by
 obtain rfl:z=false:=by rw[←hz];simp[ba,ai,hnm,fz]
 simp only[go_sem,hlv,hop,hnu,hnm]):P:=h
theorem MY {P:Prop}(h:P:=by
 obtain⟨k,t,v⟩:=y
 rw[py]
 simp only[go_sem]
 exact⟨_,cm (e:=0),rfl⟩):P:=h
theorem MZ {P:Prop}(h:P:=by
 rcases hi3 e (by simpa using he) with h|h
 ·rw[hb] at h;cases h
 ·exact h):P:=h
theorem M0 {P:Prop}(h:P:=by
 intro xs h
 simp only[j8,ce] at h
 obtain⟨r,rs,rfl,h1,h2⟩:=h
 simp only[j8,RVs]
 exact⟨_,_,rfl,h1.rep hr (hr.ev x),ih rs h2⟩):P:=h
theorem M1 {P:Prop}(h:P:=by exact⟨y,cv,h1,fun w' hw'=>by simp[execOp,h2 w' hw'],h3⟩):P:=h
theorem M3 {P:Prop}(h:P:=by
 simp only[ab,aj]
 exact⟨rfl,hv.2.1,fun _ _=>⟨ad,hβ,hsp,by simp[z1]⟩⟩):P:=h
theorem M4 {P:Prop}(h:P:=by exact h.elim):P:=h
theorem M5 {P:Prop}(h:P:=by
 subst he
 obtain⟨k1,k2⟩:=ic hr hdst hv h1 h2 h3
 exact⟨k1.defers,hn _ β' _ w' ⟨r,g',ob',hR,rfl⟩ k1 (hΦ _ _ _ _ _ _ _ hφ k2)⟩):P:=h
theorem M6 {P:Prop}(h:P:=by
 rcases this with((h|h)|h)|h
 ·exact .inl h
 ·exact .inr (.inl h)
 ·exact .inr (.inr h)
 ·rw[D3.2 hat] at h;cases h):P:=h
theorem M7 {P:Prop}(h:P:=by
 have:=ka hcl hid j e2.o ho2 (fun e' he' hb'=>hid j _ hLj ho2 e' he' hb') i h
 rw[hL] at this
 exact absurd this.1 a7):P:=h
theorem M8 {P:Prop}(h:P:=by exact dz hT more rest hp' hds' hp.2 h (fun s2 a2 k1 k2 k3=>hQ _ _ k1 k2 (Tr.trans (Tr.same (by rw[St.put_gen]) (by rw[St.put_obj]) rfl) k3))):P:=h
theorem M9 {P:Prop}(h:P:=by exact gh hT rest hp hds' h (fun s2 β2 a2 w2 k1 k2 k3=>hQ _ _ _ _ k1 k2 (Tr.trans (Tr.same (by rw[St.put_gen]) (by rw[St.put_obj]) rfl) k3))):P:=h
theorem Na {P:Prop}(h:P:=by exact dQ hT more rest hp' hds' hp.2 h (fun s2 a2 k1 k2 k3=>hQ _ _ k1 k2 (Tr.trans (Tr.same (by rw[St.put_gen]) (by rw[St.put_obj]) rfl) k3))):P:=h
theorem Nb {P:Prop}(h:P:=by
 have:=l7.1 hds ops[i] (B5 hi1)
 rw[hd] at this
 simpa using this):P:=h
theorem Nc {P:Prop}(h:P:=by
 simp only[go_sem,e1,e2,hli,hl]
 refine aV rfl (by simp only[go_sem];exact h3 false) ?_
 rintro _ rfl
 simp only[go_sem,hl]):P:=h
theorem Nd {P:Prop}(h:P:=by
 simp only[go_sem,e1,e2,hli,hl]
 refine aV rfl (by simp only[go_sem];exact h3 true) ?_
 rintro _ rfl
 simp only[go_sem,hl]):P:=h
theorem Nf {P:Prop}(h:P:=by simp only[go_sem,q0,q1]):P:=h
theorem Ng {P:Prop}(h:P:=by
 obtain rfl:z=0:=by rw[←hz,hw];simp
 exact Ma):P:=h
theorem Nh {P:Prop}(h:P:=by
 rw[if_pos hw] at h
 rw[if_pos (by simp[Region.wanted,hg,hy,hw])]
 exact hop hr' (Tr.same rfl rfl rfl) h):P:=h
theorem Ni {P:Prop}(h:P:=by
 simp only[go_sem,n1,n2]
 exact hK):P:=h
theorem Nj {P:Prop}(h:P:=by
 rw[pz]
 simp only[go_sem]
 exact⟨_,cm (k:=0) (v:=0),rfl⟩):P:=h
theorem Nk {P:Prop}(h:P:=by
 have hki:¬(k:Int)<(l.length:Int):=a6
 rw[l6 a6] at hc
 obtain rfl:z=true:=hc.symm
 simp only[go_sem,q0,q5,hki,b7]):P:=h
theorem Nl {P:Prop}(h:P:=by
 rw[hβ] at hat
 obtain⟨rfl,rfl⟩:=hat
 have:es=[]:=j5 hlen
 subst this
 exact .sl0):P:=h
theorem Nn {P:Prop}(h:P:=by exact dq h (fun w=>by simp[Builtin.len_,run_underlying hu,goInt])):P:=h
theorem No {P:Prop}(h:P:=by exact fun _ _ _ h=>h.elim):P:=h
theorem Np {P:Prop}(h:P:=by
 constructor <;> (repeat rw[if_neg (by omega)])
 ·exact(hs i hi h1 h2).1
 ·exact(hs i hi h1 h2).2):P:=h
theorem Nq {P:Prop}(h:P:=by
 refine⟨_,al.refl _,?_⟩
 simp only[go_sem]
 exact ku.same h):P:=h
theorem Nr {P:Prop}(h:P:=by
 rw[hg] at h
 simp only at h
 rw[if_pos (by simp[Region.wanted,hg])]
 exact hop hr Tr.refl h):P:=h
theorem Ns {P:Prop}(h:P:=by
 obtain⟨k,rfl⟩:∃k,op=k+1:=⟨op-1,a6⟩
 have:names.length≤k:=by show 27≤k;omega
 simp[nameOf,this]):P:=h
theorem Nt {P:Prop}(h:P:=by
 have hlti:¬(n:Int)<(ts.length:Int):=a6
 rw[v8 a6] at hz
 subst hz
 simp only[go_sem,ho,b7,hlti]
 exact MM):P:=h
theorem Nu {P:Prop}(h:P:=by
 rintro _ rfl
 exact Ma):P:=h
theorem Nv {P:Prop}(h:P:=by exact dN hT rest hp' hds' hp.2 h (fun s2 a2 k1 k2 k3 k4=>hQ _ _ k1 k2 (by rw[k3,St.put_gen]) (by rw[k4,St.put_obj]))):P:=h
theorem Nw {P:Prop}(h:P:=by
 obtain rfl:z=false:=by
  have:¬kids.length=1:=a6
  rw[←hz];simp[ba,this]
 simp only[go_sem,b7,hkn]):P:=h
theorem Nx {P:Prop}(h:P:=by
 obtain rfl:z=false:=by rw[←hz];simp[ba,ai,hok]
 exact Ma):P:=h
theorem Ny {P:Prop}(h:P:=by
 obtain rfl:z=false:=by rw[←hz];simp[bK,ai,hok]
 exact Ma):P:=h
theorem Nz {P:Prop}(h:P:=by
 rintro _ rfl
 exact Ms):P:=h
theorem NA {P:Prop}(h:P:=by
 obtain⟨u,hu,hru⟩:=hcells _ _ (hc m x hx)
 exact⟨u,by rw[ct hblk,z1];exact hu,ih m x hx hru⟩):P:=h
theorem NB {P:Prop}(h:P:=by
 obtain⟨cells,hc⟩:=E6.1 hi
 have:=hr.obj i cells hc
 rw[ha'] at this
 exact this.block.2):P:=h
theorem NC {P:Prop}(h:P:=by
 have hge:args.length≤i:=by simpa using hx
 exact L7):P:=h
theorem ND {P:Prop}(h:P:=by simp only[go_sem,q1,o1]):P:=h
theorem NF {P:Prop}(h:P:=by
 refine bS b0 ?_
 simp only[go_sem,ho,hn0,htg]
 exact MM):P:=h
theorem NG {P:Prop}(h:P:=by
 rw[j7,o9 a6] at hi2
 rw[o9 a6]
 simpa using hi2):P:=h
theorem NH {P:Prop}(h:P:=by
 unfold inW
 cases b
 ·exact Ma
 ·simp only[go_sem]
  exact⟨fun h=>by simp[h],fun h=>by simp[h]⟩):P:=h
theorem NI {P:Prop}(h:P:=by
 refine bH (n-1) a6 ⟨k+1,a6,?_⟩
 rw[htk]
 simp only[go_sem,q1,e1,o1,c9]
 exact⟨rfl,hcl⟩):P:=h
theorem NJ {P:Prop}(h:P:=by
 rw[hq] at hc
 simp only[r0,l9] at hc
 subst hc
 exact e3 j x hq):P:=h
theorem NK {P:Prop}(h:P:=by exact⟨s',β',a0,ds',rfl,.inr ⟨ch,rfl,h1⟩,h2,h3⟩):P:=h
theorem NL {P:Prop}(h:P:=by
 have hbi:(20000:Int)<(s.length:Int):=a6
 rw[if_pos hbig]
 simp only[go_sem,hbi]
 exact MK):P:=h
theorem NM {P:Prop}(h:P:=by exact⟨arr1,el1,fr1,h1,b9 _⟩):P:=h
theorem NN {P:Prop}(h:P:=by exact⟨z,cv,h1,fun w' hw'=>by rw[Sem.run_bind,ee _ _ _ _ _ _ a7 a7];simpa using h2 w' hw',h3⟩):P:=h
theorem NO {P:Prop}(h:P:=by exact cC (by simp[execOp,h2]) (hn _ _ _ _ h1 h3 h4)):P:=h
theorem NP {P:Prop}(h:P:=by
 simp only[go_sem] at hK ⊢
 refine er rfl (by simp only[go_sem];exact hF) ?_
 exact Nz):P:=h
theorem NQ {P:Prop}(h:P:=by
 rw[e1]
 exact⟨b9 _,fun e he=>by obtain⟨x,_,rfl⟩:=A8.1 he;rfl,⟨a8,a6⟩,hK⟩):P:=h
theorem NR {P:Prop}(h:P:=by exact⟨_,⟨_,⟨_,_,rfl,pg [.nsl,.nsl,.nsl],_,_,rfl,cc _,_,_,rfl,cc _,rfl⟩,rfl⟩,rfl⟩):P:=h
theorem NS {P:Prop}(h:P:=by
 obtain rfl:z=false:=by rw[←hz];simp[bK,ai,hnm]
 simp only[go_sem,b7,hlv,hel,hth,hnm]):P:=h
theorem NT {P:Prop}(h:P:=by
 simp only at h1 ⊢
 omega):P:=h
theorem NU {P:Prop}(h:P:=by
 refine⟨0,rfl,?_⟩
 simp only[go_sem,Nat.pow_zero,Nat.div_one]
 exact .inl trivial):P:=h
theorem NV {P:Prop}(h:P:=by
 simp only[hi1,hi2,A1] at h1 h2 hb1 hb2
 exact hr.inj i1 i2 a1 a2 h1 h2 hb1 hb2 hb):P:=h
theorem NW {P:Prop}(h:P:=by
 obtain rfl:z=false:=by rw[←hz];simp[ba,ai,hnm]
 simp only[go_sem,hlv,hop,hnu,hnm]):P:=h
theorem NX {P:Prop}(h:P:=by
 rw[if_neg a2,if_neg a4,if_neg a3,if_neg a2,if_neg a1]
 exact hs i hi a1 a2 a3 a4):P:=h
theorem NY {P:Prop}(h:P:=by
 simp only[go_sem,n1,n2,n3,n4,n5,n6,n7,n8,x1,x2,x3,x4,x5,x6,x7,x8,x9,y9]
 exact h.frm):P:=h
theorem NZ {P:Prop}(h:P:=by
 simp only[go_sem]
 exact⟨_,⟨_,⟨_,_,rfl,cc _,_,_,rfl,cc _,rfl⟩,rfl⟩,rfl⟩):P:=h
theorem N0 {P:Prop}(h:P:=by
 simp only[go_sem,n1,n2,n3,n4,n5,n6,n7,n8,x1,x2,x3,x4,x5,x6,x7,x8,x9,y9]
 exact hwd):P:=h
theorem N1 {P:Prop}(h:P:=by cases a.testBit i <;> cases b.testBit i <;> rfl):P:=h
theorem N2 {P:Prop}(h:P:=by
 obtain⟨u,hu,hru⟩:=hcell _ x (hval i e he j x hx)
 rw[hu];exact hru):P:=h
theorem N3 {P:Prop}(h:P:=by
 have d3:L 3=true:=hid 4 _ d4 rfl ⟨3,.data⟩ a7 rfl
 rw[n3] at d3;cases d3):P:=h
theorem N4 {P:Prop}(h:P:=by simp only[go_sem,n1,n2]):P:=h
theorem N5 {P:Prop}(h:P:=by simp only[go_sem,n1,n2];all_goals rfl):P:=h
theorem N6 {P:Prop}(h:P:=by simp only[go_sem,n1,n2,ho]):P:=h
theorem N7 {P:Prop}(h:P:=by simp;omega):P:=h
theorem N8 {P:Prop}(h:P:=by simp only[go_sem,n1,n2,o125']):P:=h
theorem N9 {P:Prop}(h:P:=by simp only[go_sem]):P:=h
theorem Oa {P:Prop}(h:P:=by simp only;omega):P:=h
theorem Ob {P:Prop}(h:P:=by have:=h.hB;have:=h.hX;have:=h.hW;simp;omega):P:=h
theorem Oc {P:Prop}(h:P:=by simp only[go_sem,n1,n2,hg,q0]):P:=h
theorem Od {P:Prop}(h:P:=by simp only[go_sem,n1,n2,n3,n4,cX];rfl):P:=h
theorem Oe {P:Prop}(h:P:=by simp[upd]):P:=h
theorem Og {P:Prop}(h:P:=by simp only[go_sem];exact hL):P:=h
theorem Oh {P:Prop}(h:P:=by simp[Region.wanted,hg,hy,hw]):P:=h
theorem Oi {P:Prop}(h:P:=by simp[ho]):P:=h
theorem Oj {P:Prop}(h:P:=by simp only[go_sem];exact hN):P:=h
theorem Ok {P:Prop}(h:P:=by simp only[go_sem];exact hD):P:=h
theorem Ol {P:Prop}(h:P:=by simp only[go_sem,n1,n2,hg,q0];all_goals rfl):P:=h
theorem Om {P:Prop}(h:P:=by simp only[go_sem];exact hR):P:=h
theorem On {P:Prop}(h:P:=by simp only[go_sem];exact eT name):P:=h
theorem Oo {P:Prop}(h:P:=by have:=h.hB;simp;omega):P:=h
theorem Oq {P:Prop}(h:P:=by simp[aW]):P:=h
theorem Ot {P:Prop}(h:P:=by rw[hd];rfl):P:=h
theorem Ou {P:Prop}(h:P:=by simp only[szE,bB];omega):P:=h
theorem Ov {P:Prop}(h:P:=by simp only[go_sem];exact hT):P:=h
theorem Ow {P:Prop}(h:P:=by rintro _ _ _ ⟨rfl,gO,rfl,rfl⟩;exact hk gO):P:=h
theorem Ox {P:Prop}(h:P:=by simp only[St.claimAt];simp only[go_sem,n1,n2]):P:=h
theorem Oy {P:Prop}(h:P:=by simp[aT]):P:=h
theorem Oz {P:Prop}(h:P:=by simpa using hx):P:=h
theorem OA {P:Prop}(h:P:=by simp only[go_sem,n1,n2,hg];all_goals rfl):P:=h
theorem OB {P:Prop}(h:P:=by simp only[go_sem,n1,n2,o125]):P:=h
theorem OC {P:Prop}(h:P:=by simp[bz]):P:=h
theorem OD {P:Prop}(h:P:=by simp only[go_sem];rfl):P:=h
theorem OE {P:Prop}(h:P:=by simp only[go_sem,n1,n2];simp[exC,exD]):P:=h
theorem OF {P:Prop}(h:P:=by simpa using hl):P:=h
theorem OG {P:Prop}(h:P:=by simp only[go_sem];exact hB):P:=h
theorem OH {P:Prop}(h:P:=by simp[Region.wanted,hg,hy]):P:=h
theorem OI {P:Prop}(h:P:=by show _<fu;simp only;omega):P:=h
theorem OJ {P:Prop}(h:P:=by simp[hx]):P:=h
theorem OK {P:Prop}(h:P:=by obtain⟨listed,rfl,e1,e2⟩:=h6;exact mj hbk e1 e2):P:=h
theorem OL {P:Prop}(h:P:=by simp[pack,exV,exD]):P:=h
theorem OM {P:Prop}(h:P:=by simp only[go_sem,hwl];exact hK):P:=h
theorem ON {P:Prop}(h:P:=by simp only[go_sem,n1,n2,rdW,bN]):P:=h
theorem OO {P:Prop}(h:P:=by rw[ho];rfl):P:=h
theorem OP {P:Prop}(h:P:=by simp only[go_sem];exact hS):P:=h
theorem OQ {P:Prop}(h:P:=by simp only[go_sem];exact rj):P:=h
theorem OR {P:Prop}(h:P:=by simp only[go_sem];exact rm):P:=h
theorem OS {P:Prop}(h:P:=by simp only[go_sem];exact hW):P:=h
theorem OT {P:Prop}(h:P:=by simp only[szS,bG,bB];omega):P:=h
theorem OU {P:Prop}(h:P:=by simpa using hi):P:=h
theorem OV {P:Prop}(h:P:=by unfold dl;clear ho hn;induction l with|nil=>rfl|cons a l ih=>simpa using ih):P:=h
theorem OW {P:Prop}(h:P:=by simp only[szS,bG];omega):P:=h
theorem OX {P:Prop}(h:P:=by simp[eW]):P:=h
theorem OY {P:Prop}(h:P:=by cases h):P:=h
theorem OZ {P:Prop}(h:P:=by unfold kE rem;split <;> omega):P:=h
theorem O0 {P:Prop}(h:P:=by simp only[go_sem,n1,n2,o17]):P:=h
theorem O1 {P:Prop}(h:P:=by simp only[go_sem,n1,n2,o43]):P:=h
theorem O2 {P:Prop}(h:P:=by simp only[go_sem];exact hG):P:=h
theorem O3 {P:Prop}(h:P:=by simp only[go_sem];exact hU):P:=h
theorem O4 {P:Prop}(h:P:=by rintro _ rfl;rfl):P:=h
theorem O5 {P:Prop}(h:P:=by simp only[go_sem,n1,n2,q0,hg];rw[←hg];exact uE o125'):P:=h
theorem O6 {P:Prop}(h:P:=by have:=count_set hli;omega):P:=h
theorem O7 {P:Prop}(h:P:=by cases ho):P:=h
theorem O8 {P:Prop}(h:P:=by simp[pack,smV,smD,dR,bw]):P:=h
set_option maxHeartbeats 64000000
set_option maxRecDepth 100000
end
end Go
namespace Go.Am
section
theorem ite_cc {α:Sort _} {b c:Prop} [Decidable b] [Decidable c] {x y:α} (h:b=c):ite b x y=ite c x y:=by subst h;congr
attribute [go_sem] reduceIte
end
section
attribute [local congr] Go.Am.ite_cc
section
inductive D where
 |bool (b:Bool)
 |int (k:IntKind) (n:Int)
 |str (s:List UInt8)
 |sl (es:List (List D))
 |nsl
 |nilp
 |nilf
 |nili
 |nilm
 |fn (f:FuncId)
 |iptr (cs:List D)
 |yld (l:Nat)
 deriving Inhabited
inductive PC where
 |d (x:D)
 |ptr (id g off:Nat)
 deriving Inhabited
inductive C where
 |d (x:D)
 |osl (id g sz off len:Nat)
 |ptr (id g off:Nat)
 |clo (f:FuncId) (caps:List PC)
 |mp (id g kd:Nat)
 |lsl (n:Nat)
 |raw (o:Obj)
 deriving Inhabited
inductive AV where
 |one (c:C)
 |agg (cs:List C)
 |tup (vs:List AV)
 |junk
 |exact(v:Value)
 deriving Inhabited
structure St where
 f:Nat→AV
 gen:Nat→Nat
 obj:Nat→Option (List C)
inductive Box {α:Type} (a:α):Type where
 |mk
@[reducible] def bx {α:Type} (a:α):Box a:=.mk
def upd {α:Type} (f:Nat→α) (i:Nat) (v:α):Nat→α:=fun j=>if j=i then v else f j
structure TI where
 desc:TypeDesc
 size:Nat
 bytes:Nat
 zero:List D
 deriving Inhabited
abbrev iv (k:IntKind) (n:Int):AV:=.one (.d (.int k n))
abbrev bv (b:Bool):AV:=.one (.d (.bool b))
abbrev sv (s:List UInt8):AV:=.one (.d (.str s))
abbrev uv:AV:=.tup []
def Lt:Value→C
 |.bool b=>.d (.bool b)
 |.int k n=>.d (.int k n)
 |.string s=>.d (.str s.data.toList)
 |.slice none 0 0=>.d .nsl
 |.pointer none=>.d .nilp
 |.nilFunc=>.d .nilf
 |.nilIface=>.d .nili
 |.map none=>.d .nilm
 |_=>.osl 0 0 0 0 0
def rL:Value→AV
 |.bool b=>.one (.d (.bool b))
 |.int k n=>.one (.d (.int k n))
 |.string s=>.one (.d (.str s.data.toList))
 |.slice none 0 0=>.one (.d .nsl)
 |.pointer none=>.one (.d .nilp)
 |.nilFunc=>.one (.d .nilf)
 |.nilIface=>.one (.d .nili)
 |.map none=>.one (.d .nilm)
 |_=>.junk
def St.ev (s:St):Operand→AV
 |.tmp t=>s.f t
 |.const v=>rL v
 |.global _=>.junk
 |.func f=>.one (.d (.fn f))
def St.put (s:St) (dst:Option Nat) (v:AV):St:=
 match dst with
 |none=>s
 |some d=>{ s with f:=upd s.f d v }
def nxC (c g:Nat):Nat:=1000000*(g+1)+(if c<1000000 then c else 0)
def code (g:Nat):Nat:=g%1000000
theorem qF (c g:Nat):g<nxC c g:=by unfold nxC;omega
theorem tQ (c g:Nat):nxC c g≠g:=Nat.ne_of_gt (qF c g)
theorem eK (c g:Nat):code (nxC c g)=if c<1000000 then c else 0:=by
 unfold code nxC;rw[Nat.mul_add_mod];split
 ·rename_i h;exact B7 h
 ·rfl
def apC (e g off:Nat):Nat:=if code g=e+1∧off=0 then e+1 else 0
def St.newC (c:Nat) (s:St) (d:Nat) (cs:List C):St:={ s with gen:=upd s.gen d (nxC c (s.gen d)),obj:=upd s.obj d (some cs)}
def db:TypeDesc→Bool
 |.struct _|.array _ _=>true
 |_=>false
def cellsOf:AV→Option (List C)
 |.one c=>some [c]
 |.agg cs=>some cs
 |_=>none
def setAt (cells:List C) (off:Nat):List C→List C
 |[]=>cells
 |c::cs=>setAt (cells.set off c) (off+1) cs
def gU (b:UInt8):D:=.int .u8 b.toNat
def gk (b:Bool) {K:Bool→Prop} (_:Box K):Prop:=(b=true→K true)∧(b=false→K false)
def aG {α:Type} (x:Option α) {K:α→Prop} (_:Box K):Prop:=
 match x with
 |some a=>K a
 |none=>False
def kB (v:AV) {K:Bool→Prop} (k:Box K):Prop:=
 match v with
 |.one (.d (.bool b))=>gk b k
 |_=>False
def iD (v:AV) {K:Bool→Prop} (k:Box K) {U:Prop} (_:Box U):Prop:=
 match v with
 |.one (.d (.bool b))=>gk b k
 |.tup []=>U
 |_=>False
def od (ti:TI) (cells:List C) (off:Nat) {K:AV→Prop} (_:Box K):Prop:=
 match db ti.desc with
 |true=>off+ti.size≤cells.length∧K (.agg ((cells.drop off).take ti.size))
 |false=>aG (cells[off]?) (bx fun c=>K (.one c))
def ve (ti:TI) (cs:List D) {K:AV→Prop} (_:Box K):Prop:=
 match db ti.desc with
 |true=>ti.size≤cs.length∧K (.agg ((cs.take ti.size).map .d))
 |false=>aG (cs[0]?) (bx fun c=>K (.one (.d c)))
def okD:TypeDesc→Bool
 |.invalid=>false
 |_=>true
def mX (ti:TI) (s:St) (a:AV) {K:AV→Prop} (k:Box K):Prop:=
 match a with
 |.one (.ptr id g off)=>okD ti.desc=true∧s.gen id=g∧aG (s.obj id) (bx fun cells=>od ti cells off k)
 |.one (.d (.iptr cs))=>okD ti.desc=true∧ve ti cs k
 |_=>False
def kC (ti:TI) (s:St) (a x:AV) {K:St→Prop} (_:Box K):Prop:=
 match a with
 | .one (.ptr id g off)=>okD ti.desc=true∧s.gen id=g∧aG (cellsOf x) (bx fun cs=>cs.length=ti.size∧aG (s.obj id) (bx fun cells=>off+cs.length≤cells.length∧
     K { s with obj:=upd s.obj id (some (setAt cells off cs))}))
 |_=>False
def ei (s:St) (sz:Nat) (x ix:AV) {K:AV→Prop} (_:Box K):Prop:=
 match ix with
 |.one (.d (.int _ i))=>
   match x with
   |.one (.d (.sl es))=>0≤i∧aG (es[i.toNat]?) (bx fun c=>c.length=sz∧K (.one (.d (.iptr c))))
   |.one (.osl id g sz' off len)=>s.gen id=g∧(s.obj id).isSome=true∧0≤i∧i<len∧sz'=sz∧K (.one (.ptr id g (off+i.toNat*sz)))
   |_=>False
 |_=>False
def jp (T:Nat→TI) (d:TypeDesc) (s:St) (x ix:AV) {K:AV→Prop} (_:Box K):Prop:=
 match d with
 |.array n e=>
   match ix with
   |.one (.d (.int _ i))=>
     match x with
     |.one (.ptr id g off)=>s.gen id=g∧(s.obj id).isSome=true∧okD (T e).desc=true∧0≤i∧i<n∧K (.one (.ptr id g (off+i.toNat*(T e).size)))
     |_=>False
   |_=>False
 |_=>False
def kv (d:TypeDesc):Bool:=match d with|.array _ _=>true|_=>false
def oe (x ix:AV) {K:AV→Prop} (_:Box K):Prop:=
 match ix with
 |.one (.d (.int _ i))=>
   match x with
   |.one (.d (.str s))=>0≤i∧aG (s[i.toNat]?) (bx fun c=>K (iv .u8 c.toNat))
   |_=>False
 |_=>False
def jq (op:BinOp) (k:IntKind) (x y:Int) {K:AV→Prop} (_:Box K):Prop:=
 match op with
 |.add=>K (iv k (k.wrap (x+y)))
 |.sub=>K (iv k (k.wrap (x-y)))
 |.mul=>K (iv k (k.wrap (x*y)))
 |.quo=>y≠0∧K (iv k (k.wrap (x.tdiv y)))
 |.rem=>y≠0∧K (iv k (x.tmod y))
 |.eql=>K (bv (decide (x=y)))
 |.neq=>K (bv (decide (x≠y)))
 |.lss=>K (bv (decide (x<y)))
 |.leq=>K (bv (decide (x≤y)))
 |.gtr=>K (bv (decide (y<x)))
 |.geq=>K (bv (decide (y≤x)))
 |.and=>K (iv k (k.wrap (BitVec.ofInt k.bits x &&&BitVec.ofInt k.bits y).toNat))
 |.or=>K (iv k (k.wrap (BitVec.ofInt k.bits x |||BitVec.ofInt k.bits y).toNat))
 |.xor=>K (iv k (k.wrap (BitVec.ofInt k.bits x ^^^ BitVec.ofInt k.bits y).toNat))
 |.andNot=>K (iv k (k.wrap (BitVec.ofInt k.bits x &&& ~~~ BitVec.ofInt k.bits y).toNat))
 |.shl=>0≤y∧K (iv k (k.wrap (x*2^(min y.toNat k.bits))))
 |.shr=>0≤y∧K (iv k (x.fdiv (2^(min y.toNat k.bits))))
def tR (op:BinOp) (x y:List UInt8) {K:AV→Prop} (_:Box K):Prop:=
 match op with
 |.add=>((x.length+y.length:Nat):Int)≤9223372036854775807∧K (sv (x++y))
 |.eql=>K (bv (decide (x=y)))
 |.neq=>K (bv (decide (x≠y)))
 |.lss=>K (bv (Op.bytesLess x y))
 |.leq=>K (bv (Op.bytesLess x y||decide (x=y)))
 |.gtr=>K (bv (!(Op.bytesLess x y||decide (x=y))))
 |.geq=>K (bv (!Op.bytesLess x y))
 |_=>False
def sameKind (op:BinOp) (k k':IntKind):Prop:=
 match op with
 |.shl|.shr=>True
 |_=>k=k'
def AB (d:TypeDesc) (op:BinOp) (x y:Bool) {K:AV→Prop} (_:Box K):Prop:=
 match d,op with
 |.bool,.eql=>K (bv (decide (x=y)))
 |.bool,.neq=>K (bv (decide (x≠y)))
 |_,_=>False
def pY (k:IntKind):List C→Option (List Int)
 |[]=>some []
 |.d (.int k' n)::r=>if k'=k then(pY k r).map (n :: ·) else none
 |_=>none
def AC (ti:TI) (n:Nat) (xs ys:List C) {K:Bool→Prop} (_:Box K):Prop:=
 match ti.desc with
 |.int k=>ti.size=1∧aG (pY k xs) (bx fun a=>aG (pY k ys) (bx fun b=>(a.length=n∧b.length=n)∧K (decide (a=b))))
 |_=>False
def Hh (T:Nat→TI) (d:TypeDesc) (op:BinOp) (xs ys:List C) {K:AV→Prop} (_:Box K):Prop:=
 match d,op with
 |.array n e,.eql=>AC (T e) n xs ys (bx fun b=>K (bv b))
 |.array n e,.neq=>AC (T e) n xs ys (bx fun b=>K (bv (!b)))
 |_,_=>False
def tS (T:Nat→TI) (d:TypeDesc) (op:BinOp) (x y:AV) {K:AV→Prop} (k:Box K):Prop:=
 match x,y with
 |.one (.d (.int k1 a)),.one (.d (.int k2 b))=>sameKind op k1 k2∧jq op k1 a b k
 |.one (.d (.str a)),.one (.d (.str b))=>tR op a b k
 |.one (.d (.bool a)),.one (.d (.bool b))=>AB d op a b k
 |.agg xs,.agg ys=>Hh T d op xs ys k
 |_,_=>False
def unA (op:UnOp) (x:AV) {K:AV→Prop} (_:Box K):Prop:=
 match op,x with
 |.not,.one (.d (.bool b))=>K (bv (!b))
 |.neg,.one (.d (.int k n))=>K (iv k (k.wrap (0-n)))
 |_,_=>False
def contents (s:St) (str sl:Bool) (sz:Nat) (x:AV) {K:Nat→List C→Prop} (_:Box K):Prop:=
 match x with
 |.one (.d .nsl)=>sl=true∧K 0 []
 |.one (.d (.sl es))=>sl=true∧(∀e∈es,e.length=sz)∧K es.length (es.flatten.map .d)
 |.one (.d (.str bs))=>str=true∧sz=1∧K bs.length (bs.map fun b=>.d (gU b))
 |.one (.osl id g sz' off len)=>sl=true∧s.gen id=g∧sz'=sz∧aG (s.obj id) (bx fun cells=>off+len*sz≤cells.length∧K len ((cells.drop off).take (len*sz)))
 |_=>False
def u8s:List C→Option (List Int)
 |[]=>some []
 |.d (.int .u8 n)::r=>(u8s r).map (n :: ·)
 |_=>none
def qG:TypeDesc→Bool
 |.int .u8=>true
 |_=>false
def mY (s:St) (el:TypeDesc) (src dst:TypeDesc) (x:AV) {K:AV→Prop} (_:Box K):Prop:=
 match src,dst,x with
 |sr,.int k,.one (.d (.int _ n))=>okD sr=true∧K (iv k (k.wrap n))
 |.string,.string,.one (.d (.str b))=>K (sv b)
 |.slice _,.string,y=>qG el=true∧contents s false true 1 y (bx fun _ cs=>aG (u8s cs) (bx fun ns=>K (sv (ns.map fun n=>UInt8.ofNat n.toNat))))
 |_,_,_=>False
def og (n bytes:Nat):Prop:=0<bytes∧(2*n+1024)*bytes≤281474976710656
def iE (e:Nat) (ti:TI) (str sl:Bool) (i d:Nat) (s:St) (x y:AV) {K:St→Prop} (_:Box K):Prop:=
 match x with
 |.one (.d .nsl)=>contents s str sl ti.size y (bx fun n cs=>og n ti.bytes∧K ((s.newC (e+1) i cs).put (some d) (.one (.osl i (nxC (e+1) (s.gen i)) ti.size 0 n))))
 | .one (.osl id g sz off len)=>s.gen id=g∧sz=ti.size∧aG (s.obj id) (bx fun cells=>off+len*sz≤cells.length∧
    contents s str sl ti.size y (bx fun n cs=>og (len+n) ti.bytes∧
     K ((s.newC (apC e (s.gen id) off) id ((cells.drop off).take (len*sz)++cs)).put (some d) (.one (.osl id (nxC (apC e (s.gen id) off) (s.gen id)) ti.size 0 (len+n))))))
 |_=>False
def qH (s:St) (str sl:Bool) (x:AV) {K:AV→Prop} (_:Box K):Prop:=
 match x with
 |.one (.d .nsl)=>sl=true∧K (iv .i64 0)
 |.one (.d (.sl es))=>sl=true∧K (iv .i64 es.length)
 |.one (.d (.str bs))=>str=true∧K (iv .i64 bs.length)
 |.one (.osl id g _ _ len)=>sl=true∧s.gen id=g∧(s.obj id).isSome=true∧K (iv .i64 len)
 |.one (.lsl n)=>sl=true∧K (iv .i64 n)
 |_=>False
def ej (o:Option AV) (els:Nat) {K:Nat→Prop} (_:Box K):Prop:=
 match o with
 |none=>K els
 |some (.one (.d (.int _ n)))=>0≤n∧K n.toNat
 |_=>False
def mh (s:St) (str sl:Bool) (sz:Nat) (x:AV) (lo hi:Option AV) {K:AV→Prop} (_:Box K):Prop:=
 match x with
 |.one (.d (.str bs))=>str=true∧ej hi bs.length (bx fun h=>ej lo 0 (bx fun l=>l≤h∧h≤bs.length∧K (sv ((bs.take h).drop l))))
 |.one (.d (.sl es))=>sl=true∧ej hi es.length (bx fun h=>ej lo 0 (bx fun l=>l≤h∧h≤es.length∧(∀x∈es,x.length=sz)∧K (.one (.d (.sl ((es.take h).drop l))))))
 |.one (.d .nsl)=>sl=true∧ej hi 0 (bx fun h=>ej lo 0 (bx fun l=>l=0∧h=0∧K (.one (.d .nsl))))
 |.one (.osl id g sz' off len)=>sl=true∧s.gen id=g∧(s.obj id).isSome=true∧ej hi len (bx fun h=>ej lo 0 (bx fun l=>l≤h∧h≤len∧sz'=sz∧K (.one (.osl id g sz (off+l*sz) (h-l)))))
 |_=>False
def AD (o:Option (List C)) (n:Nat):Prop:=∃l,o=some l∧n≤l.length
def gX (T:Nat→TI) (d:TypeDesc) (s:St) (x:AV) (lo hi:Option AV) {K:AV→Prop} (_:Box K):Prop:=
 match d with
 |.array n e=>
   match x with
   |.one (.ptr id g off)=>
     match lo with
     |none=>s.gen id=g∧okD (T e).desc=true∧AD (s.obj id) (off+n*(T e).size)∧ej hi n (bx fun h=>h≤n∧K (.one (.osl id g (T e).size off h)))
     |_=>False
   |_=>False
 |_=>False
def rM (sz:Nat):(k:Nat)→(ps:List (Nat×AV))→{K:List C→Prop}→Box K→Prop
 |_,[],K,_=>K []
 |k,p::r,K,_=>p.1=k∧aG (cellsOf p.2) (bx fun cs=>cs.length=sz∧rM sz (k+1) r (bx fun rest=>K (cs++rest)))
def fE (e sz i d n:Nat) (s:St) (ps:List (Nat×AV)) {K:St→Prop} (_:Box K):Prop:=
 ps.length=n∧n*sz≤16777216∧rM sz 0 ps (bx fun cs=>K ((s.newC (e+1) i cs).put (some d) (.one (.osl i (nxC (e+1) (s.gen i)) sz 0 n))))
def dY (d:TypeDesc) (f:Nat):Option Field:=
 match d with
 |.struct fs=>fs[f]?
 |_=>none
def em (T:Nat→TI) (t f:Nat) (s:St) (x:AV) {K:AV→Prop} (_:Box K):Prop:=
 match x with
 |.one (.ptr id g off)=>s.gen id=g∧(s.obj id).isSome=true∧aG (dY (T t).desc f) (bx fun fl=>(okD (T fl.type).desc=true∧(T fl.type).size≠0)∧K (.one (.ptr id g (off+fl.offset))))
 |.one (.d (.iptr cs))=>aG (dY (T t).desc f) (bx fun fl=>(okD (T fl.type).desc=true∧(T fl.type).size≠0)∧K (.one (.d (.iptr (cs.drop fl.offset)))))
 |_=>False
def mi (T:Nat→TI) (t f:Nat) (x:AV) {K:AV→Prop} (k:Box K):Prop:=
 match x with
 |.agg cs=>aG (dY (T t).desc f) (bx fun fl=>okD (T fl.type).desc=true∧od (T fl.type) cs fl.offset k)
 |_=>False
def na (pl:Nat→Option (Nat×Nat)):(cells:List C)→(ps:List (Nat×AV))→{K:List C→Prop}→Box K→Prop
 |cells,[],K,_=>K cells
 |cells,p::r,_,k=>aG (pl p.1) (bx fun q=>aG (cellsOf p.2) (bx fun cs=>cs.length=q.2∧q.1+q.2≤cells.length∧na pl (setAt cells q.1 cs) r k))
def placeOf (T:Nat→TI) (d:TypeDesc) (i:Nat):Option (Nat×Nat):=
 match d with
 |.array _ e=>some (i*(T e).size,(T e).size)
 |d=>(dY d i).bind fun fl=>bif okD (T fl.type).desc then some (fl.offset,(T fl.type).size) else none
def iF (T:Nat→TI) (t:Nat):Bool:=match (T t).desc with|.struct fs=>fs.toList.all fun f=>okD (T f.type).desc|.array _ e=>okD (T e).desc|_=>false
def fP (T:Nat→TI) (t:Nat) (ps:List (Nat×AV)) {K:AV→Prop} (_:Box K):Prop:=
 iF T t=true∧na (placeOf T (T t).desc) ((T t).zero.map .d) ps (bx fun cs=>K (.agg cs))
def AE (t i d:Nat) (s:St) (x:AV) {K:St→Prop} (_:Box K):Prop:=
 aG (cellsOf x) (bx fun cs=>K ((s.newC (t+1) i cs).put (some d) (.one (.ptr i (nxC (t+1) (s.gen i)) 0))))
def qI (t:Nat) (ti:TI) (i d:Nat) (s:St) {K:St→Prop} (_:Box K):Prop:=
 okD ti.desc=true∧K ((s.newC (t+1) i (ti.zero.map .d)).put (some d) (.one (.ptr i (nxC (t+1) (s.gen i)) 0)))
def ge (s:St) (x:AV) {K:AV→Prop} (_:Box K):Prop:=
 match x with
 |.one (.ptr id g off)=>s.gen id=g∧(s.obj id).isSome=true∧K (.one (.ptr id g off))
 |.one (.d (.iptr cs))=>K (.one (.d (.iptr cs)))
 |_=>False
def jr (x:AV) (i:Nat) {K:AV→Prop} (k:Box K):Prop:=
 match x with
 |.tup ts=>aG (ts[i]?) k
 |_=>False
def mxA (mx:Bool) (x y:AV) {K:AV→Prop} (_:Box K):Prop:=
 match x,y with
 |.one (.d (.int k a)),.one (.d (.int _ b))=>K (iv k (if mx then max a b else min a b))
 |_,_=>False
def fj (e:Nat) (ti:TI) (i d:Nat) (s:St) (l c:AV) {K:St→Prop} (_:Box K):Prop:=
 match l,c with
 |.one (.d (.int _ n)),.one (.d (.int _ m))=>0≤n∧n≤m∧m≤4611686018427387904∧m*ti.bytes≤281474976710656∧
    K ((s.newC (e+1) i (List.replicate m.toNat (ti.zero.map C.d)).flatten).put (some d) (.one (.osl i (nxC (e+1) (s.gen i)) ti.size 0 n.toNat)))
 |_,_=>False
def dt:Nat→TypeDesc
 |0=>.int .i8|1=>.int .i16|2=>.int .i32|3=>.int .i64|4=>.int .u8|5=>.int .u16|6=>.int .u32|7=>.int .u64
 |8=>.string
 |9=>.bool
 |_=>.invalid
def kZ:TypeDesc→Nat
 |.int .i8=>0|.int .i16=>1|.int .i32=>2|.int .i64=>3|.int .u8=>4|.int .u16=>5|.int .u32=>6|.int .u64=>7
 |.string=>8
 |_=>9
def gl:TypeDesc→D→Bool
 |.int k,.int k' _=>k'=k
 |.string,.str _=>true
 |.bool,.bool _=>true
 |_,_=>false
def oh:D→D→Bool
 |.int k n,.int k' n'=>k=k'&&n=n'
 |.str s,.str s'=>s=s'
 |.bool b,.bool b'=>b=b'
 |_,_=>false
def mget:List C→D→Option C
 |.d k'::c::r,k=>if oh k' k then some c else mget r k
 |_,_=>none
def mset:List C→D→C→List C
 |.d k'::c::r,k,x=>if oh k' k then .d k'::x::r else .d k'::c::mset r k x
 |_,k,x=>[.d k,x]
def xq (agg:Bool) (n:Nat):Nat:=match agg with|true=>200+n|false=>n
def lf (T:Nat→TI) (t i d:Nat) (s:St) {K:St→Prop} (_:Box K):Prop:=
 match (T t).desc with
 |.map kt et=>dt (kZ (T kt).desc)=(T kt).desc∧K ((s.newC 0 i []).put (some d) (.one (.mp i (nxC 0 (s.gen i)) (xq (db (T et).desc) (kZ (T kt).desc)))))
 |_=>False
def rN (ok:Bool) (z:D) (c:Option C):AV:=if ok then .tup [.one (c.getD (.d z)),bv c.isSome] else .one (c.getD (.d z))
def xr (ti:TI) {K:D→Prop} (_:Box K):Prop:=
 match ti.zero with
 |[z]=>(okD ti.desc=true∧db ti.desc=false)∧K z
 |_=>False
def wl (z:List D):Option C→List D
 |some (.d (.iptr ds))=>ds
 |_=>z
def ol (ok:Bool) (z:List D) (c:Option C):AV:=match ok with|true=>.tup [.agg ((wl z c).map .d),bv c.isSome]|false=>.agg ((wl z c).map .d)
def xt (ti:TI) {K:List D→Prop} (_:Box K):Prop:=(okD ti.desc=true∧2≤ti.zero.length)∧K ti.zero
def nI (T:Nat→TI) (t:Nat) (s:St) (x ix:AV) (ok:Bool) {K:AV→Prop} (_:Box K):Prop:=
 match (T t).desc,ix with
 |.map kt et,.one (.d k)=>(okD (T kt).desc=true∧gl (T kt).desc k=true)∧
   match db (T et).desc with
   | false=>xr (T et) (bx fun z=>
     match x with
     |.one (.mp id g kd)=>s.gen id=g∧dt kd=(T kt).desc∧aG (s.obj id) (bx fun cells=>K (rN ok z (mget cells k)))
     |.one (.d .nilm)=>K (rN ok z none)
     | _=>False)
   | true=>xt (T et) (bx fun z=>
     match x with
     |.one (.mp id g kd)=>s.gen id=g∧(200≤kd∧dt (kd-200)=(T kt).desc)∧aG (s.obj id) (bx fun cells=>K (ol ok z (mget cells k)))
     |.one (.d .nilm)=>K (ol ok z none)
     | _=>False)
 |_,_=>False
def datas:List C→Option (List D)
 |[]=>some []
 |.d x::r=>(datas r).map (x :: ·)
 |_=>none
def iG (T:Nat→TI) (t:Nat) (s:St) (m ix x:AV) {K:St→Prop} (_:Box K):Prop:=
 match (T t).desc,ix,m,x with
 |.map kt _,.one (.d k),.one (.mp id g kd),.one c=>(okD (T kt).desc=true∧gl (T kt).desc k=true)∧s.gen id=g∧dt kd=(T kt).desc∧aG (s.obj id) (bx fun cells=>K { s with obj:=upd s.obj id (some (mset cells k c))})
 |.map kt _,.one (.d k),.one (.mp id g kd),.agg cs=>(okD (T kt).desc=true∧gl (T kt).desc k=true)∧s.gen id=g∧(200≤kd∧dt (kd-200)=(T kt).desc)∧aG (datas cs) (bx fun ds=>aG (s.obj id) (bx fun cells=>K { s with obj:=upd s.obj id (some (mset cells k (.d (.iptr ds))))}))
 |_,_,_,_=>False
def wm:AV→Option PC
 |.one (.d x)=>some (.d x)
 |.one (.ptr id g off)=>some (.ptr id g off)
 |_=>none
def jd:List AV→Option (List PC)
 |[]=>some []
 |x::xs=>(wm x).bind fun p=>(jd xs).bind fun ps=>some (p::ps)
def gf (f:FuncId) (first caps:List AV) {K:AV→Prop} (_:Box K):Prop:=
 match first with
 |[]=>f<1000000∧aG (jd caps) (bx fun l=>K (.one (.clo f l)))
 |x::r=>caps=[]∧aG (jd (x::r)) (bx fun l=>K (.one (.clo (f+1000000) l)))
def aJ (T:Nat→TI) (t:Nat):Nat:=
 match (T t).desc with
 |.slice e=>e
 |_=>0
def aS (T:Nat→TI) (t:Nat):TI:=
 match (T t).desc with
 |.slice e=>T e
 |_=>default
def om (s:St) (c:Call) (i:Nat):AV:=s.ev (c.args.getD i (.const .nilFunc))
structure Sp where
 op:Oper→St→(St→Prop)→Prop
 code:Code→St→(Exit→St→Prop)→Prop
 vs:St→St→Prop
 base:Nat
def br (S:Sp) (o:Oper) (s:St) {K:St→Prop} (_:Box K):Prop:=∃R,S.op o s R∧∀s',R s'→K s'
def CA (S:Sp) (c:Code) (s:St) {Q:Exit→St→Prop} (_:Box Q):Prop:=∃R,S.code c s R∧∀e s',R e s'→Q e s'
def isSlice (d:TypeDesc):Bool:=match d with|.slice _=>true|_=>false
def cB (T:Nat→TI):Op→Bool
 |.indexAddr _ x _=>match x with|.global _=>false|_=>true
 |.move _|.assign _|.pick .. | .load .. | .index .. | .binOp .. | .unOp .. | .slice _ _ _ _ none|.fieldAddr .. | .field .. | .build .. | .nilCheck _|.extract .. | .lookup .. | .makeFunc (.func _) _ _=>true
 |.convert _ d _=>!isSlice (T d).desc
 |.call c=>match c.callee with|.builtin .len|.builtin .max|.builtin .min=>true|_=>false
 |_=>false
def js (T:Nat→TI) (ops:Array Oper):Bool:=
 (ops.toList.all (cB T ·.op)&&Region.lexB .any ops) ||
 [1,2,3,4].any fun k=>(ops.toList.take (ops.size-k)).all (cB T ·.op)&&Region.lexTailB .any ops (ops.size-k)
def isStr (d:TypeDesc):Bool:=match d with|.string=>true|_=>false
def cS (T:Nat→TI) (t:Nat):Bool:=isSlice (T t).desc&&okD (aS T t).desc
def iH (T:Nat→TI) (src d base:Nat) (dst:Option Nat) (s:St) (x:AV) {K:St→Prop} (_:Box K):Prop:=
 match dst,x with
 |some dd,.one (.d (.str bs))=>isStr (T src).desc=true∧qG (aS T d).desc=true∧K ((s.newC (aJ T d+1) (base+dd) (bs.map fun b=>.d (gU b))).put (some dd) (.one (.osl (base+dd) (nxC (aJ T d+1) (s.gen (base+dd))) 1 0 bs.length)))
 |_,_=>False
def Hi (S:Sp) (T:Nat→TI) (o:Oper) (c:Call) (s:St) {K:St→Prop} (k:Box K):Prop:=
 match c.callee,o.dst with
 |.builtin .len,dst=>(c.args.size=1∧c.argTypes.size=1)∧qH s (isStr (T (c.argTypes.getD 0 0)).desc) (cS T (c.argTypes.getD 0 0)) (om s c 0) (bx fun v=>K (s.put dst v))
 |.builtin .max,dst=>c.args.size=2∧mxA true (om s c 0) (om s c 1) (bx fun v=>K (s.put dst v))
 |.builtin .min,dst=>c.args.size=2∧mxA false (om s c 0) (om s c 1) (bx fun v=>K (s.put dst v))
 |.builtin .append,some d=>(c.args.size=2∧c.argTypes.size=2)∧cS T (c.argTypes.getD 0 0)=true∧iE (aJ T (c.argTypes.getD 0 0)) (aS T (c.argTypes.getD 0 0)) (isStr (T (c.argTypes.getD 1 0)).desc) (cS T (c.argTypes.getD 1 0)) (S.base+d) d s (om s c 0) (om s c 1) k
 |_,_=>br S o s k
def opA (S:Sp) (T:Nat→TI) (o:Oper) (s:St) {K:St→Prop} (k:Box K):Prop:=
 match o.op,o.dst with
 |.move x,dst=>K (s.put dst (s.ev x))
 |.assign x,dst=>K (s.put dst (s.ev x))
 |.pick c a b,dst=>kB (s.ev c) (bx fun t=>K (s.put dst (if t then s.ev a else s.ev b)))
 |.load t a,dst=>mX (T t) s (s.ev a) (bx fun v=>K (s.put dst v))
 |.store t a x,dst=>kC (T t) s (s.ev a) (s.ev x) (bx fun s'=>K (s'.put dst uv))
 |.indexAddr t x ix,dst=>match x with
   |.global _=>br S o s k
   |x=>bif kv (T t).desc then jp T (T t).desc s (s.ev x) (s.ev ix) (bx fun v=>K (s.put dst v)) else cS T t=true∧ei s (aS T t).size (s.ev x) (s.ev ix) (bx fun v=>K (s.put dst v))
 |.index t x ix,dst=>isStr (T t).desc=true∧oe (s.ev x) (s.ev ix) (bx fun v=>K (s.put dst v))
 |.binOp op t x y _,dst=>tS T (T t).desc op (s.ev x) (s.ev y) (bx fun v=>K (s.put dst v))
 |.unOp op _ x,dst=>unA op (s.ev x) (bx fun v=>K (s.put dst v))
 |.convert src d x,dst=>bif isSlice (T d).desc then iH T src d S.base dst s (s.ev x) k else mY s (aS T src).desc (T src).desc (T d).desc (s.ev x) (bx fun v=>K (s.put dst v))
 |.slice t x lo hi none,dst=>bif kv (T t).desc then gX T (T t).desc s (s.ev x) (lo.map s.ev) (hi.map s.ev) (bx fun v=>K (s.put dst v)) else mh s (isStr (T t).desc) (cS T t) (aS T t).size (s.ev x) (lo.map s.ev) (hi.map s.ev) (bx fun v=>K (s.put dst v))
 |.buildSlice t n ps,some d=>cS T t=true∧fE (aJ T t) (aS T t).size (S.base+d) d n s (ps.toList.map fun p=>(p.1,s.ev p.2)) k
 |.makeSlice t l c,some d=>cS T t=true∧fj (aJ T t) (aS T t) (S.base+d) d s (s.ev l) (s.ev c) k
 |.fieldAddr t x f,dst=>em T t f s (s.ev x) (bx fun v=>K (s.put dst v))
 |.field t x f,dst=>mi T t f (s.ev x) (bx fun v=>K (s.put dst v))
 |.build t ps,dst=>fP T t (ps.toList.map fun p=>(p.1,s.ev p.2)) (bx fun v=>K (s.put dst v))
 |.nilCheck x,dst=>ge s (s.ev x) (bx fun v=>K (s.put dst v))
 |.extract x i,dst=>jr (s.ev x) i (bx fun v=>K (s.put dst v))
 |.box t x,some d=>AE t (S.base+d) d s (s.ev x) k
 |.alloc t,some d=>qI t (T t) (S.base+d) d s k
 |.makeMap t none,some d=>lf T t (S.base+d) d s k
 |.lookup t x ix ok,dst=>nI T t s (s.ev x) (s.ev ix) ok (bx fun v=>K (s.put dst v))
 |.mapUpdate t m ix x,dst=>iG T t s (s.ev m) (s.ev ix) (s.ev x) (bx fun s'=>K (s'.put dst uv))
 |.makeFunc (.func f) first caps,dst=>gf f (first.toList.map s.ev) (caps.toList.map s.ev) (bx fun v=>K (s.put dst v))
 |.call c,_=>Hi S T o c s k
 |_,_=>br S o s k
def wpO (S:Sp) (T:Nat→TI) (ops:Array Oper):List Oper→(s:St)→{K:St→Prop}→(k:Box K)→Prop
 |[],s,K,_=>K s
 |o::rest,s,K,k=>
   match o.guard with
   |none=>opA S T o s (bx fun s'=>wpO S T ops rest s' k)
   |some (j,want)=>
     aG ((ops[j]?).bind (·.dst)) (bx fun d=>
      iD (s.f d) (bx fun b=>if b=want then opA S T o { s with f:=upd s.f d (bv b)} (bx fun s'=>wpO S T ops rest s' k)
       else wpO S T ops rest ({ s with f:=upd s.f d (bv b)}.put o.dst uv) k) (bx (wpO S T ops rest (s.put o.dst uv) k)))
def gD {next:St→Prop} (_:Box next) {Q:Exit→St→Prop} (_:Box Q):Exit→St→Prop
 |.normal,s=>next s
 |e,s=>Q e s
def eL (id:Nat) {Q:Exit→St→Prop} (_:Box Q):Exit→St→Prop
 |.exit id',s=>if id'=id then Q .normal s else Q (.exit id') s
 |e,s=>Q e s
def nb (S:Sp) {B:(Exit→St→Prop)→St→Prop} (_:Box B) {Q:Exit→St→Prop} (q:Box Q) (s:St):Prop:=
 ∃I:Nat→St→Prop,(∃n s₁,S.vs s s₁∧I n s₁)∧∀n s,I n s→B (gD (bx fun s'=>∃n' s₁,n'<n∧S.vs s' s₁∧I n' s₁) q) s
def lg {Q:Exit→St→Prop} (_:Box Q):Exit→St→Prop
 |.goto _,_=>False
 |e,s=>Q e s
def gY (S:Sp) (T:Nat→TI) (id:Nat) (ops:Array Oper) (s:St) {Q:Exit→St→Prop} (q:Box Q):Prop:=
 (js T ops=true∧wpO S T ops ops.toList s (bx fun s'=>Q .normal s'))∨CA S (.region id ops true) s q
def wpC (S:Sp) (T:Nat→TI):Code→{Q:Exit→St→Prop}→(q:Box Q)→St→Prop
 |.skip,Q,_,s=>Q .normal s
 |.label _,Q,_,s=>Q .normal s
 |.region id ops b,Q,q,s=>match b with|true=>gY S T id ops s q|false=>wpO S T ops ops.toList s (bx fun s'=>Q .normal s')
 |.seq x y,Q,q,s=>wpC S T x (bx (gD (bx fun s'=>wpC S T y q s') q)) s
 |.cond c x y,Q,q,s=>kB (s.ev c) (bx fun b=>if b then wpC S T x q s else wpC S T y q s)
 |.block id c,Q,q,s=>wpC S T c (bx (eL id q)) s
 |.loop c,Q,q,s=>nb S (bx fun Q s=>wpC S T c (bx Q) s) q s
 |.exit id,Q,_,s=>Q (.exit id) s
 |.ret,Q,_,s=>Q .ret s
 |.scope c,_,q,s=>wpC S T c (bx (lg q)) s
 |.goto l,Q,_,s=>Q (.goto l) s
 |c,_,q,s=>CA S c s q
variable {K:AV→Prop}{s:St}{ty:TypeId}{ps:String}{af:Array Edge}{gd:Option (Nat×Bool)}{dst:Option Tmp}{x:Operand}{n:Nat}{t:TypeId}{Q:Exit→St→Prop}{d:Tmp}{a:Array Operand}{ts:Array TypeId}{next:St→Prop}{c:Code}{ix:Operand}{p:Array (Nat×Operand)}{l:List Oper}{q:Box Q}{b:Box next}
section equations
variable {S:Sp}{T:Nat→TI}
@[go_sem] theorem CB {K:Bool→Prop} (k:Box K):gk true k=K true:=by simp[gk]
@[go_sem] theorem AF {K:Bool→Prop} (k:Box K):gk false k=K false:=by simp[gk]
@[go_sem] theorem Al (p:Prop) [Decidable p] {K:Bool→Prop} (k:Box K):gk (decide p) k=((p→K true)∧(¬p→K false)):=by simp[gk]
@[go_sem] theorem CC {α:Type} (a:α) {K:α→Prop} (k:Box K):aG (some a) k=K a:=b8 rfl rfl
@[go_sem] theorem Gt (b:Bool) {K:Bool→Prop} (k:Box K):kB (.one (.d (.bool b))) k=gk b k:=b8 rfl rfl
@[go_sem] theorem Gu (b:Bool) {K:Bool→Prop} (k:Box K) {U:Prop} (u:Box U):iD (.one (.d (.bool b))) k u=gk b k:=b8 rfl rfl
@[go_sem] theorem Hj {K:Bool→Prop} (k:Box K) {U:Prop} (u:Box U):iD (.tup []) k u=U:=b8 rfl rfl
@[go_sem] theorem CD :db .bool=false:=b8 rfl rfl
@[go_sem] theorem Hk :okD .bool=true:=b8 rfl rfl
@[go_sem] theorem Eb (kd:IntKind):db (.int kd)=false:=b8 rfl rfl
@[go_sem] theorem CE (kd:IntKind):isSlice (.int kd)=false:=b8 rfl rfl
@[go_sem] theorem JL (kd:IntKind):okD (.int kd)=true:=b8 rfl rfl
@[go_sem] theorem Ao :db .string=false:=b8 rfl rfl
@[go_sem] theorem xu :isSlice .string=false:=b8 rfl rfl
@[go_sem] theorem AG :kv .string=false:=b8 rfl rfl
@[go_sem] theorem Ec :okD .string=true:=b8 rfl rfl
@[go_sem] theorem AH :isStr .string=true:=b8 rfl rfl
@[go_sem] theorem CF (e:TypeId):okD (.pointer e)=true:=b8 rfl rfl
@[go_sem] theorem AI (e:TypeId):db (.slice e)=false:=b8 rfl rfl
@[go_sem] theorem Ap (e:TypeId):isSlice (.slice e)=true:=b8 rfl rfl
@[go_sem] theorem CG (e:TypeId):kv (.slice e)=false:=b8 rfl rfl
@[go_sem] theorem Gv (e:TypeId):okD (.slice e)=true:=b8 rfl rfl
@[go_sem] theorem CH (e:TypeId):isStr (.slice e)=false:=b8 rfl rfl
@[go_sem] theorem Aq (fs:Array Field):db (.struct fs)=true:=b8 rfl rfl
@[go_sem] theorem Ed (fs:Array Field):okD (.struct fs)=true:=b8 rfl rfl
@[go_sem] theorem Gw (d:TypeDesc) (n b:Nat) (z:List D) (cells:List C) (off:Nat) (k:Box K):od ⟨d,n,b,z⟩ cells off k=(match db d with|true=>off+n≤cells.length∧K (.agg ((cells.drop off).take n))|false=>aG (cells[off]?) (bx fun c=>K (.one c))):=b8 rfl rfl
@[go_sem] theorem Gx (d:TypeDesc) (n b:Nat) (z:List D) (cs:List D) (k:Box K):ve ⟨d,n,b,z⟩ cs k=(match db d with|true=>n≤cs.length∧K (.agg ((cs.take n).map .d))|false=>aG (cs[0]?) (bx fun c=>K (.one (.d c)))):=b8 rfl rfl
@[go_sem] theorem Gy (ti:TI) (s:St) (id g off:Nat) (k:Box K):mX ti s (.one (.ptr id g off)) k=(okD ti.desc=true∧s.gen id=g∧aG (s.obj id) (bx fun cells=>od ti cells off k)):=b8 rfl rfl
@[go_sem] theorem Ee (ti:TI) (s:St) (cs:List D) (k:Box K):mX ti s (.one (.d (.iptr cs))) k=(okD ti.desc=true∧ve ti cs k):=b8 rfl rfl
@[go_sem] theorem Ef (ti:TI) (s:St) (id g off:Nat) (x:AV) {K:St→Prop} (k:Box K):kC ti s (.one (.ptr id g off)) x k=(okD ti.desc=true∧s.gen id=g∧aG (cellsOf x) (bx fun cs=>cs.length=ti.size∧aG (s.obj id) (bx fun cells=>off+cs.length≤cells.length∧K { s with obj:=upd s.obj id (some (setAt cells off cs))}))):=b8 rfl rfl
@[go_sem] theorem CI (c:C):cellsOf (.one c)=some [c]:=b8 rfl rfl
@[go_sem] theorem CJ (cs:List C):cellsOf (.agg cs)=some cs:=b8 rfl rfl
@[go_sem] theorem Gz (cells:List C) (off:Nat):setAt cells off []=cells:=b8 rfl rfl
@[go_sem] theorem Eg (cells:List C) (off:Nat) (c:C) (cs:List C):setAt cells off (c::cs)=setAt (cells.set off c) (off+1) cs:=b8 rfl rfl
@[go_sem] theorem Ar (s:St) (sz:Nat) (es:List (List D)) (kd:IntKind) (i:Int) (k:Box K):ei s sz (.one (.d (.sl es))) (.one (.d (.int kd i))) k=(0≤i∧aG (es[i.toNat]?) (bx fun c=>c.length=sz∧K (.one (.d (.iptr c))))):=b8 rfl rfl
@[go_sem] theorem xv (s:St) (sz id g sz' off len:Nat) (kd:IntKind) (i:Int) (k:Box K):ei s sz (.one (.osl id g sz' off len)) (.one (.d (.int kd i))) k=(s.gen id=g∧(s.obj id).isSome=true∧0≤i∧i<len∧sz'=sz∧K (.one (.ptr id g (off+i.toNat*sz)))):=b8 rfl rfl
@[go_sem] theorem Eh (s:List UInt8) (kd:IntKind) (i:Int) (k:Box K):oe (.one (.d (.str s))) (.one (.d (.int kd i))) k=(0≤i∧aG (s[i.toNat]?) (bx fun c=>K (iv .u8 c.toNat))):=b8 rfl rfl
@[go_sem] theorem Hl (kd:IntKind) (x y:Int) (k:Box K):jq .add kd x y k=K (iv kd (kd.wrap (x+y))):=b8 rfl rfl
@[go_sem] theorem AJ (a b:IntKind):sameKind .add a b=(a=b):=b8 rfl rfl
@[go_sem] theorem Hm (kd:IntKind) (x y:Int) (k:Box K):jq .sub kd x y k=K (iv kd (kd.wrap (x-y))):=b8 rfl rfl
@[go_sem] theorem AK (a b:IntKind):sameKind .sub a b=(a=b):=b8 rfl rfl
@[go_sem] theorem Hn (kd:IntKind) (x y:Int) (k:Box K):jq .mul kd x y k=K (iv kd (kd.wrap (x*y))):=b8 rfl rfl
@[go_sem] theorem AL (a b:IntKind):sameKind .mul a b=(a=b):=b8 rfl rfl
@[go_sem] theorem Ho (kd:IntKind) (x y:Int) (k:Box K):jq .quo kd x y k=(y≠0∧K (iv kd (kd.wrap (x.tdiv y)))):=b8 rfl rfl
@[go_sem] theorem AM (a b:IntKind):sameKind .quo a b=(a=b):=b8 rfl rfl
@[go_sem] theorem Hp (kd:IntKind) (x y:Int) (k:Box K):jq .rem kd x y k=(y≠0∧K (iv kd (x.tmod y))):=b8 rfl rfl
@[go_sem] theorem AN (a b:IntKind):sameKind .rem a b=(a=b):=b8 rfl rfl
@[go_sem] theorem Hq (kd:IntKind) (x y:Int) (k:Box K):jq .eql kd x y k=K (bv (decide (x=y))):=b8 rfl rfl
@[go_sem] theorem AO (a b:IntKind):sameKind .eql a b=(a=b):=b8 rfl rfl
@[go_sem] theorem Hr (kd:IntKind) (x y:Int) (k:Box K):jq .neq kd x y k=K (bv (decide (x≠y))):=b8 rfl rfl
@[go_sem] theorem AP (a b:IntKind):sameKind .neq a b=(a=b):=b8 rfl rfl
@[go_sem] theorem Hs (kd:IntKind) (x y:Int) (k:Box K):jq .lss kd x y k=K (bv (decide (x<y))):=b8 rfl rfl
@[go_sem] theorem AQ (a b:IntKind):sameKind .lss a b=(a=b):=b8 rfl rfl
@[go_sem] theorem Ht (kd:IntKind) (x y:Int) (k:Box K):jq .leq kd x y k=K (bv (decide (x≤y))):=b8 rfl rfl
@[go_sem] theorem AR (a b:IntKind):sameKind .leq a b=(a=b):=b8 rfl rfl
@[go_sem] theorem Hu (kd:IntKind) (x y:Int) (k:Box K):jq .gtr kd x y k=K (bv (decide (y<x))):=b8 rfl rfl
@[go_sem] theorem AS (a b:IntKind):sameKind .gtr a b=(a=b):=b8 rfl rfl
@[go_sem] theorem Hv (kd:IntKind) (x y:Int) (k:Box K):jq .geq kd x y k=K (bv (decide (y≤x))):=b8 rfl rfl
@[go_sem] theorem AT (a b:IntKind):sameKind .geq a b=(a=b):=b8 rfl rfl
@[go_sem] theorem Hw (kd:IntKind) (x y:Int) (k:Box K):jq .and kd x y k=K (iv kd (kd.wrap (BitVec.ofInt kd.bits x &&&BitVec.ofInt kd.bits y).toNat)):=b8 rfl rfl
@[go_sem] theorem AU (a b:IntKind):sameKind .and a b=(a=b):=b8 rfl rfl
@[go_sem] theorem Hx (kd:IntKind) (x y:Int) (k:Box K):jq .shr kd x y k=(0≤y∧K (iv kd (x.fdiv (2^(min y.toNat kd.bits))))):=b8 rfl rfl
@[go_sem] theorem AW (a b:IntKind):sameKind .shr a b=True:=b8 rfl rfl
@[go_sem] theorem Hy (x y:List UInt8) (k:Box K):tR .add x y k=(((x.length+y.length:Nat):Int)≤9223372036854775807∧K (sv (x++y))):=b8 rfl rfl
@[go_sem] theorem Hz (x y:List UInt8) (k:Box K):tR .eql x y k=K (bv (decide (x=y))):=b8 rfl rfl
@[go_sem] theorem HA (x y:List UInt8) (k:Box K):tR .neq x y k=K (bv (decide (x≠y))):=b8 rfl rfl
@[go_sem] theorem HB (d:TypeDesc) (op:BinOp) (k1 k2:IntKind) (a b:Int) (k:Box K):tS T d op (.one (.d (.int k1 a))) (.one (.d (.int k2 b))) k=(sameKind op k1 k2∧jq op k1 a b k):=b8 rfl rfl
@[go_sem] theorem HC (d:TypeDesc) (op:BinOp) (a b:List UInt8) (k:Box K):tS T d op (.one (.d (.str a))) (.one (.d (.str b))) k=tR op a b k:=b8 rfl rfl
@[go_sem] theorem GA (d:TypeDesc) (op:BinOp) (a b:Bool) (k:Box K):tS T d op (.one (.d (.bool a))) (.one (.d (.bool b))) k=AB d op a b k:=b8 rfl rfl
@[go_sem] theorem HD (a b:Bool) (k:Box K):AB .bool .neq a b k=K (bv (decide (a≠b))):=b8 rfl rfl
@[go_sem] theorem JM (b:Bool) (k:Box K):unA .not (.one (.d (.bool b))) k=K (bv (!b)):=b8 rfl rfl
@[go_sem] theorem GB (st:St) (el:TypeDesc) (src:TypeDesc) (kd k2:IntKind) (n:Int) (k:Box K):mY st el src (.int kd) (.one (.d (.int k2 n))) k=(okD src=true∧K (iv kd (kd.wrap n))):=by cases src <;> rfl
@[go_sem] theorem CK (st:St) (el:TypeDesc) (e:TypeId) (y:AV) (k:Box K):mY st el (.slice e) .string y k=(qG el=true∧contents st false true 1 y (bx fun _ cs=>aG (u8s cs) (bx fun ns=>K (sv (ns.map fun n=>UInt8.ofNat n.toNat))))):=by cases y <;> rfl
@[go_sem] theorem JN:qG (.int .u8)=true:=b8 rfl rfl
@[go_sem] theorem JO:u8s []=some []:=b8 rfl rfl
@[go_sem] theorem HE (n:Int) (r:List C):u8s (.d (.int .u8 n)::r)=(u8s r).map (n :: ·):=b8 rfl rfl
@[go_sem] theorem CL (s:St) (bs bl:Bool) (sz:Nat) (es:List (List D)) {K:Nat→List C→Prop} (k:Box K):contents s bs bl sz (.one (.d (.sl es))) k=(bl=true∧(∀e∈es,e.length=sz)∧K es.length (es.flatten.map .d)):=b8 rfl rfl
@[go_sem] theorem AX (s:St) (b1 b2:Bool) (sz:Nat) (bs:List UInt8) {K:Nat→List C→Prop} (k:Box K):contents s b1 b2 sz (.one (.d (.str bs))) k=(b1=true∧sz=1∧K bs.length (bs.map fun b=>.d (gU b))):=b8 rfl rfl
@[go_sem] theorem AY (s:St) (bs bl:Bool) (sz id g sz' off len:Nat) {K:Nat→List C→Prop} (k:Box K):contents s bs bl sz (.one (.osl id g sz' off len)) k=(bl=true∧s.gen id=g∧sz'=sz∧aG (s.obj id) (bx fun cells=>off+len*sz≤cells.length∧K len ((cells.drop off).take (len*sz)))):=b8 rfl rfl
@[go_sem] theorem CM (e:Nat) (ti:TI) (bs bl:Bool) (i d:Nat) (s:St) (y:AV) {K:St→Prop} (k:Box K):iE e ti bs bl i d s (.one (.d .nsl)) y k=contents s bs bl ti.size y (bx fun n cs=>og n ti.bytes∧K ((s.newC (e+1) i cs).put (some d) (.one (.osl i (nxC (e+1) (s.gen i)) ti.size 0 n)))):=b8 rfl rfl
@[go_sem] theorem CN (e:Nat) (ti:TI) (bs bl:Bool) (i d:Nat) (s:St) (id g sz off len:Nat) (y:AV) {K:St→Prop} (k:Box K):iE e ti bs bl i d s (.one (.osl id g sz off len)) y k=(s.gen id=g∧sz=ti.size∧aG (s.obj id) (bx fun cells=>off+len*sz≤cells.length∧
   contents s bs bl ti.size y (bx fun n cs=>og (len+n) ti.bytes∧
    K ((s.newC (apC e (s.gen id) off) id ((cells.drop off).take (len*sz)++cs)).put (some d) (.one (.osl id (nxC (apC e (s.gen id) off) (s.gen id)) ti.size 0 (len+n))))))):=b8 rfl rfl
@[go_sem] theorem HF (s:St) (bs bl:Bool) (k:Box K):qH s bs bl (.one (.d .nsl)) k=(bl=true∧K (iv .i64 0)):=b8 rfl rfl
@[go_sem] theorem JP (s:St) (bs bl:Bool) (es:List (List D)) (k:Box K):qH s bs bl (.one (.d (.sl es))) k=(bl=true∧K (iv .i64 es.length)):=b8 rfl rfl
@[go_sem] theorem HG (s:St) (bs bl:Bool) (es:List UInt8) (k:Box K):qH s bs bl (.one (.d (.str es))) k=(bs=true∧K (iv .i64 es.length)):=b8 rfl rfl
@[go_sem] theorem HH (s:St) (bs bl:Bool) (id g sz off len:Nat) (k:Box K):qH s bs bl (.one (.osl id g sz off len)) k=(bl=true∧s.gen id=g∧(s.obj id).isSome=true∧K (iv .i64 len)):=b8 rfl rfl
@[go_sem] theorem CO (n:Nat) {K:Nat→Prop} (k:Box K):ej none n k=K n:=b8 rfl rfl
@[go_sem] theorem CP (n:Nat) (kd:IntKind) (i:Int) {K:Nat→Prop} (k:Box K):ej (some (.one (.d (.int kd i)))) n k=(0≤i∧K i.toNat):=b8 rfl rfl
@[go_sem] theorem Ei (st:St) (bs bl:Bool) (sz:Nat) (s:List UInt8) (lo hi:Option AV) (k:Box K):mh st bs bl sz (.one (.d (.str s))) lo hi k=(bs=true∧ej hi s.length (bx fun h=>ej lo 0 (bx fun l=>l≤h∧h≤s.length∧K (sv ((s.take h).drop l))))):=b8 rfl rfl
@[go_sem] theorem HI (sz n:Nat) {K:List C→Prop} (k:Box K):rM sz n [] k=K []:=b8 rfl rfl
@[go_sem] theorem GC (sz n i:Nat) (x:AV) (r:List (Nat×AV)) {K:List C→Prop} (k:Box K):rM sz n ((i,x)::r) k=(i=n∧aG (cellsOf x) (bx fun cs=>cs.length=sz∧rM sz (n+1) r (bx fun rest=>K (cs++rest)))):=b8 rfl rfl
@[go_sem] theorem xw (e sz i d n:Nat) (s:St) (ps:List (Nat×AV)) {K:St→Prop} (k:Box K):fE e sz i d n s ps k=(ps.length=n∧n*sz≤16777216∧rM sz 0 ps (bx fun cs=>K ((s.newC (e+1) i cs).put (some d) (.one (.osl i (nxC (e+1) (s.gen i)) sz 0 n))))):=b8 rfl rfl
@[go_sem] theorem xx (fs:Array Field) (f:Nat):dY (.struct fs) f=fs[f]?:=b8 rfl rfl
@[go_sem] theorem xy (t f:Nat) (s:St) (id g off:Nat) (k:Box K):em T t f s (.one (.ptr id g off)) k=(s.gen id=g∧(s.obj id).isSome=true∧aG (dY (T t).desc f) (bx fun fl=>(okD (T fl.type).desc=true∧(T fl.type).size≠0)∧K (.one (.ptr id g (off+fl.offset))))):=b8 rfl rfl
@[go_sem] theorem xn (t f:Nat) (s:St) (cs:List D) (k:Box K):em T t f s (.one (.d (.iptr cs))) k=aG (dY (T t).desc f) (bx fun fl=>(okD (T fl.type).desc=true∧(T fl.type).size≠0)∧K (.one (.d (.iptr (cs.drop fl.offset))))):=b8 rfl rfl
@[go_sem] theorem Ej (t f:Nat) (cs:List C) (k:Box K):mi T t f (.agg cs) k=aG (dY (T t).desc f) (bx fun fl=>okD (T fl.type).desc=true∧od (T fl.type) cs fl.offset k):=b8 rfl rfl
@[go_sem] theorem GD (pl:Nat→Option (Nat×Nat)) (cells:List C) {K:List C→Prop} (k:Box K):na pl cells [] k=K cells:=b8 rfl rfl
@[go_sem] theorem Ek (pl:Nat→Option (Nat×Nat)) (cells:List C) (i:Nat) (x:AV) (r:List (Nat×AV)) {K:List C→Prop} (k:Box K):na pl cells ((i,x)::r) k=aG (pl i) (bx fun q=>aG (cellsOf x) (bx fun cs=>cs.length=q.2∧q.1+q.2≤cells.length∧na pl (setAt cells q.1 cs) r k)):=b8 rfl rfl
@[go_sem] theorem El (fs:Array Field) (i:Nat):placeOf T (.struct fs) i=(dY (.struct fs) i).bind fun fl=>bif okD (T fl.type).desc then some (fl.offset,(T fl.type).size) else none:=b8 rfl rfl
@[go_sem] theorem GE (t:Nat) (ps:List (Nat×AV)) (k:Box K):fP T t ps k=(iF T t=true∧na (placeOf T (T t).desc) ((T t).zero.map .d) ps (bx fun cs=>K (.agg cs))):=b8 rfl rfl
@[go_sem] theorem JQ (t i d:Nat) (s:St) (x:AV) {K:St→Prop} (k:Box K):AE t i d s x k=aG (cellsOf x) (bx fun cs=>K ((s.newC (t+1) i cs).put (some d) (.one (.ptr i (nxC (t+1) (s.gen i)) 0)))):=b8 rfl rfl
@[go_sem] theorem GF (t:Nat) (ti:TI) (i d:Nat) (s:St) {K:St→Prop} (k:Box K):qI t ti i d s k=(okD ti.desc=true∧K ((s.newC (t+1) i (ti.zero.map .d)).put (some d) (.one (.ptr i (nxC (t+1) (s.gen i)) 0)))):=b8 rfl rfl
@[go_sem] theorem Au (s:St) (id g off:Nat) (k:Box K):ge s (.one (.ptr id g off)) k=(s.gen id=g∧(s.obj id).isSome=true∧K (.one (.ptr id g off))):=b8 rfl rfl
@[go_sem] theorem AZ (ts:List AV) (i:Nat) (k:Box K):jr (.tup ts) i k=aG (ts[i]?) k:=b8 rfl rfl
@[go_sem] theorem Av (e:Nat) (ti:TI) (i d:Nat) (s:St) (k1 k2:IntKind) (n m:Int) {K:St→Prop} (k:Box K):fj e ti i d s (.one (.d (.int k1 n))) (.one (.d (.int k2 m))) k=(0≤n∧n≤m∧m≤4611686018427387904∧m*ti.bytes≤281474976710656∧
   K ((s.newC (e+1) i (List.replicate m.toNat (ti.zero.map C.d)).flatten).put (some d) (.one (.osl i (nxC (e+1) (s.gen i)) ti.size 0 n.toNat)))):=b8 rfl rfl
@[go_sem] theorem HJ (id g off:Nat):wm (.one (.ptr id g off))=some (.ptr id g off):=b8 rfl rfl
@[go_sem] theorem GG:jd []=some []:=b8 rfl rfl
@[go_sem] theorem Em (x:AV) (xs:List AV):jd (x::xs)=(wm x).bind fun p=>(jd xs).bind fun ps=>some (p::ps):=b8 rfl rfl
@[go_sem] theorem Aw (f:FuncId) (caps:List AV) (k:Box K):gf f [] caps k=(f<1000000∧aG (jd caps) (bx fun l=>K (.one (.clo f l)))):=b8 rfl rfl
@[go_sem] theorem HK{K:St→Prop}{k:Box K}:opA S T ⟨dst,.move x,ty,ps,af,gd⟩ s k=K (s.put dst (s.ev x)):=b8 rfl rfl
@[go_sem] theorem En{K:St→Prop}{k:Box K}:opA S T ⟨dst,.assign x,ty,ps,af,gd⟩ s k=K (s.put dst (s.ev x)):=b8 rfl rfl
@[go_sem] theorem HL{K:St→Prop}{k:Box K}{c a b:Operand}:opA S T ⟨dst,.pick c a b,ty,ps,af,gd⟩ s k=kB (s.ev c) (bx fun t=>K (s.put dst (if t then s.ev a else s.ev b))):=b8 rfl rfl
@[go_sem] theorem HM{K:St→Prop}{k:Box K}{a:Operand}:opA S T ⟨dst,.load t a,ty,ps,af,gd⟩ s k=mX (T t) s (s.ev a) (bx fun v=>K (s.put dst v)):=b8 rfl rfl
@[go_sem] theorem GH{K:St→Prop}{k:Box K}{a x:Operand}:opA S T ⟨dst,.store t a x,ty,ps,af,gd⟩ s k=kC (T t) s (s.ev a) (s.ev x) (bx fun s'=>K (s'.put dst uv)):=b8 rfl rfl
@[go_sem] theorem Ax{K:St→Prop}{k:Box K}{x:Nat}:opA S T ⟨dst,.indexAddr t (.tmp x) ix,ty,ps,af,gd⟩ s k=(bif kv (T t).desc then jp T (T t).desc s (s.f x) (s.ev ix) (bx fun v=>K (s.put dst v)) else cS T t=true∧ei s (aS T t).size (s.f x) (s.ev ix) (bx fun v=>K (s.put dst v))):=b8 rfl rfl
@[go_sem] theorem HN{K:St→Prop}{k:Box K}{t g:Nat}:opA S T ⟨dst,.indexAddr t (.global g) ix,ty,ps,af,gd⟩ s k=br S ⟨dst,.indexAddr t (.global g) ix,ty,ps,af,gd⟩ s k:=b8 rfl rfl
@[go_sem] theorem GI{K:St→Prop}{k:Box K}{x ix:Operand}:opA S T ⟨dst,.index t x ix,ty,ps,af,gd⟩ s k=(isStr (T t).desc=true∧oe (s.ev x) (s.ev ix) (bx fun v=>K (s.put dst v))):=b8 rfl rfl
@[go_sem] theorem GJ{K:St→Prop}{k:Box K}{o:BinOp}{t u:TypeId}{x y:Operand}:opA S T ⟨dst,.binOp o t x y u,ty,ps,af,gd⟩ s k=tS T (T t).desc o (s.ev x) (s.ev y) (bx fun v=>K (s.put dst v)):=b8 rfl rfl
@[go_sem] theorem HO{K:St→Prop}{k:Box K}{o:UnOp}:opA S T ⟨dst,.unOp o t x,ty,ps,af,gd⟩ s k=unA o (s.ev x) (bx fun v=>K (s.put dst v)):=b8 rfl rfl
@[go_sem] theorem CQ{K:St→Prop}{k:Box K}{t u:TypeId}:opA S T ⟨dst,.convert t u x,ty,ps,af,gd⟩ s k=(bif isSlice (T u).desc then iH T t u S.base dst s (s.ev x) k else mY s (aS T t).desc (T t).desc (T u).desc (s.ev x) (bx fun v=>K (s.put dst v))):=b8 rfl rfl
@[go_sem] theorem CR (T:Nat→TI) (src d base dd:Nat) (s:St) (bs:List UInt8) {K:St→Prop} (k:Box K):iH T src d base (some dd) s (.one (.d (.str bs))) k=(isStr (T src).desc=true∧qG (aS T d).desc=true∧K ((s.newC (aJ T d+1) (base+dd) (bs.map fun b=>.d (gU b))).put (some dd) (.one (.osl (base+dd) (nxC (aJ T d+1) (s.gen (base+dd))) 1 0 bs.length)))):=b8 rfl rfl
@[go_sem] theorem GK{K:St→Prop}{k:Box K}{lo hi:Option Operand}:opA S T ⟨dst,.slice t x lo hi none,ty,ps,af,gd⟩ s k=(bif kv (T t).desc then gX T (T t).desc s (s.ev x) (lo.map s.ev) (hi.map s.ev) (bx fun v=>K (s.put dst v)) else mh s (isStr (T t).desc) (cS T t) (aS T t).size (s.ev x) (lo.map s.ev) (hi.map s.ev) (bx fun v=>K (s.put dst v))):=b8 rfl rfl
@[go_sem] theorem xz{K:St→Prop}{k:Box K}{t n:Nat}:opA S T ⟨(some d),.buildSlice t n p,ty,ps,af,gd⟩ s k=(cS T t=true∧fE (aJ T t) (aS T t).size (S.base+d) d n s (p.toList.map fun p=>(p.1,s.ev p.2)) k):=b8 rfl rfl
@[go_sem] theorem Ay{K:St→Prop}{k:Box K}{l c:Operand}:opA S T ⟨(some d),.makeSlice t l c,ty,ps,af,gd⟩ s k=(cS T t=true∧fj (aJ T t) (aS T t) (S.base+d) d s (s.ev l) (s.ev c) k):=b8 rfl rfl
@[go_sem] theorem JR{K:St→Prop}{k:Box K}:opA S T ⟨dst,.call ⟨.builtin .len,a,ts⟩,ty,ps,af,gd⟩ s k=((a.size=1∧ts.size=1)∧qH s (isStr (T (ts.getD 0 0)).desc) (cS T (ts.getD 0 0)) (s.ev (a.getD 0 (.const .nilFunc))) (bx fun v=>K (s.put dst v))):=b8 rfl rfl
@[go_sem] theorem Eo{K:St→Prop}{k:Box K}:opA S T ⟨(some d),.call ⟨.builtin .append,a,ts⟩,ty,ps,af,gd⟩ s k=((a.size=2∧ts.size=2)∧cS T (ts.getD 0 0)=true∧iE (aJ T (ts.getD 0 0)) (aS T (ts.getD 0 0)) (isStr (T (ts.getD 1 0)).desc) (cS T (ts.getD 1 0)) (S.base+d) d s (s.ev (a.getD 0 (.const .nilFunc))) (s.ev (a.getD 1 (.const .nilFunc))) k):=b8 rfl rfl
@[go_sem] theorem Az{K:St→Prop}{k:Box K}{t f:Nat}:opA S T ⟨dst,.fieldAddr t x f,ty,ps,af,gd⟩ s k=em T t f s (s.ev x) (bx fun v=>K (s.put dst v)):=b8 rfl rfl
@[go_sem] theorem GL{K:St→Prop}{k:Box K}{t f:Nat}:opA S T ⟨dst,.field t x f,ty,ps,af,gd⟩ s k=mi T t f (s.ev x) (bx fun v=>K (s.put dst v)):=b8 rfl rfl
@[go_sem] theorem GM{K:St→Prop}{k:Box K}{t:Nat}:opA S T ⟨dst,.build t p,ty,ps,af,gd⟩ s k=fP T t (p.toList.map fun p=>(p.1,s.ev p.2)) (bx fun v=>K (s.put dst v)):=b8 rfl rfl
@[go_sem] theorem Ba{K:St→Prop}{k:Box K}:opA S T ⟨dst,.nilCheck x,ty,ps,af,gd⟩ s k=ge s (s.ev x) (bx fun v=>K (s.put dst v)):=b8 rfl rfl
@[go_sem] theorem CS{K:St→Prop}{k:Box K}{i:Nat}:opA S T ⟨dst,.extract x i,ty,ps,af,gd⟩ s k=jr (s.ev x) i (bx fun v=>K (s.put dst v)):=b8 rfl rfl
@[go_sem] theorem JS{K:St→Prop}{k:Box K}{t:Nat}:opA S T ⟨(some d),.box t x,ty,ps,af,gd⟩ s k=AE t (S.base+d) d s (s.ev x) k:=b8 rfl rfl
@[go_sem] theorem GN{K:St→Prop}{k:Box K}{t:Nat}:opA S T ⟨(some d),.alloc t,ty,ps,af,gd⟩ s k=qI t (T t) (S.base+d) d s k:=b8 rfl rfl
@[go_sem] theorem Bb{K:St→Prop}{k:Box K}{f:FuncId}{first caps:Array Operand}:opA S T ⟨dst,.makeFunc (.func f) first caps,ty,ps,af,gd⟩ s k=gf f (first.toList.map s.ev) (caps.toList.map s.ev) (bx fun v=>K (s.put dst v)):=b8 rfl rfl
@[go_sem] theorem HP{K:St→Prop}{k:Box K}{f:Operand}:opA S T ⟨dst,.call ⟨.value f,a,ts⟩,ty,ps,af,gd⟩ s k=br S ⟨dst,.call ⟨.value f,a,ts⟩,ty,ps,af,gd⟩ s k:=b8 rfl rfl
@[go_sem] theorem Kv (s:St) (t:Nat):s.ev (.tmp t)=s.f t:=b8 rfl rfl
@[go_sem] theorem HQ (s:St) (v:Value):s.ev (.const v)=rL v:=b8 rfl rfl
@[go_sem] theorem JT (s:St) (f:Nat):s.ev (.func f)=.one (.d (.fn f)):=b8 rfl rfl
@[go_sem] theorem GO (b:Bool):rL (.bool b)=bv b:=b8 rfl rfl
@[go_sem] theorem HR (k:IntKind) (n:Int):rL (.int k n)=iv k n:=b8 rfl rfl
@[go_sem] theorem CT (s:ByteArray):rL (.string s)=sv s.data.toList:=b8 rfl rfl
@[go_sem] theorem HS :rL (.slice none 0 0)=.one (.d .nsl):=b8 rfl rfl
@[go_sem] theorem Bd:gD b q .normal s=next s:=b8 rfl rfl
@[go_sem] theorem GP:gD b q .ret s=Q .ret s:=b8 rfl rfl
@[go_sem] theorem Ep:gD b q (.exit n) s=Q (.exit n) s:=b8 rfl rfl
@[go_sem] theorem xo:eL n q .normal s=Q .normal s:=b8 rfl rfl
@[go_sem] theorem Be:eL n q .ret s=Q .ret s:=b8 rfl rfl
@[go_sem] theorem AA {n m:Nat}:eL n q (.exit m) s=(if m=n then Q .normal s else Q (.exit m) s):=b8 rfl rfl
@[go_sem] theorem CU:lg q .ret s=Q .ret s:=b8 rfl rfl
@[go_sem] theorem JU (c:Nat) (s:St) (d:Nat) (cs:List C):s.newC c d cs = { s with gen:=upd s.gen d (nxC c (s.gen d)),obj:=upd s.obj d (some cs)}:=b8 rfl rfl
section steps
variable {f:Nat→AV}{g:Nat→Nat}{ob:Nat→Option (List C)}{Q:Exit→St→Prop}{q:Box Q}{K:St→Prop}{k:Box K}{ops:Array Oper}{rest:List Oper}
@[go_sem] theorem HT:wpC S T .skip q ⟨f,g,ob⟩=Q .normal ⟨f,g,ob⟩:=b8 rfl rfl
@[go_sem] theorem GQ:wpC S T (.label n) q ⟨f,g,ob⟩=Q .normal ⟨f,g,ob⟩:=b8 rfl rfl
@[go_sem] theorem GR:wpC S T (.scope c) q ⟨f,g,ob⟩=wpC S T c (bx (lg q)) ⟨f,g,ob⟩:=b8 rfl rfl
@[go_sem] theorem HU:wpC S T (.region n l.toArray true) q ⟨f,g,ob⟩=gY S T n l.toArray ⟨f,g,ob⟩ q:=b8 rfl rfl
@[go_sem] theorem Er:wpC S T (.region n l.toArray false) q ⟨f,g,ob⟩=wpO S T l.toArray l ⟨f,g,ob⟩ (bx fun s'=>Q .normal s'):=by simp[wpC]
@[go_sem] theorem JV {x y:Code}:wpC S T (.seq x y) q ⟨f,g,ob⟩=wpC S T x (bx (gD (bx fun s'=>wpC S T y q s') q)) ⟨f,g,ob⟩:=b8 rfl rfl
@[go_sem] theorem HV {c:Operand}{x y:Code}:wpC S T (.cond c x y) q ⟨f,g,ob⟩=kB (St.ev ⟨f,g,ob⟩ c) (bx fun b=>if b then wpC S T x q ⟨f,g,ob⟩ else wpC S T y q ⟨f,g,ob⟩):=b8 rfl rfl
@[go_sem] theorem GS:wpC S T (.block n c) q ⟨f,g,ob⟩=wpC S T c (bx (eL n q)) ⟨f,g,ob⟩:=b8 rfl rfl
@[go_sem] theorem HW:wpC S T (.loop c) q ⟨f,g,ob⟩=nb S (bx fun Q s=>wpC S T c (bx Q) s) q ⟨f,g,ob⟩:=b8 rfl rfl
@[go_sem] theorem HX:wpC S T (.exit n) q ⟨f,g,ob⟩=Q (.exit n) ⟨f,g,ob⟩:=b8 rfl rfl
@[go_sem] theorem JW:wpC S T .ret q ⟨f,g,ob⟩=Q .ret ⟨f,g,ob⟩:=b8 rfl rfl
@[go_sem] theorem JX:wpO S T ops [] ⟨f,g,ob⟩ k=K ⟨f,g,ob⟩:=b8 rfl rfl
@[go_sem] theorem HY{op:Op} :
  wpO S T ops (⟨dst,op,ty,ps,af,none⟩::rest) ⟨f,g,ob⟩ k=opA S T ⟨dst,op,ty,ps,af,none⟩ ⟨f,g,ob⟩ (bx fun s'=>wpO S T ops rest s' k):=b8 rfl rfl
@[go_sem] theorem HZ{op:Op}{j:Nat}{want:Bool} :
  wpO S T ops (⟨dst,op,ty,ps,af,some (j,want)⟩::rest) ⟨f,g,ob⟩ k =
   aG ((ops[j]?).bind (·.dst)) (bx fun d=>
    iD (f d) (bx fun b=>if b=want then opA S T ⟨dst,op,ty,ps,af,some (j,want)⟩ ⟨upd f d (bv b),g,ob⟩ (bx fun s'=>wpO S T ops rest s' k)
     else wpO S T ops rest (St.put ⟨upd f d (bv b),g,ob⟩ dst uv) k) (bx (wpO S T ops rest (St.put ⟨f,g,ob⟩ dst uv) k))):=b8 rfl rfl
end steps
@[go_sem] theorem GT {α:Type} (f:Nat→α) (i j:Nat) (v:α):upd f i v j=if j=i then v else f j:=b8 rfl rfl
@[go_sem] theorem St.put_some (s:St) (d:Nat) (v:AV):s.put (some d) v = { s with f:=upd s.f d v }:=b8 rfl rfl
@[go_sem] theorem St.put_none (s:St) (v:AV):s.put none v=s:=b8 rfl rfl
attribute [go_sem] Nat.reduceEqDiff Nat.reduceAdd Nat.reduceMul Nat.reduceSub Nat.reduceLT Nat.reduceLeDiff Int.reduceLT Int.reduceLE Int.reduceEq Int.reduceNe Int.reduceAdd Int.reduceNeg Int.reduceToNat
attribute [go_sem] if_true if_false ite_true ite_false and_true true_and List.length_map List.length_cons List.length_nil List.size_toArray Option.bind_some Option.map_some Option.map_none Option.bind_none cond_true cond_false List.append_nil List.cons_append List.set_cons_zero List.set_cons_succ List.set_nil List.drop_succ_cons List.take_succ_cons List.take_zero
attribute [go_sem] Array.getD_eq_getD_getElem? List.getElem?_toArray List.getElem?_cons_zero List.getElem?_cons_succ List.getElem?_nil Option.getD_some Option.getD_none List.getElem?_map
attribute [go_sem] List.drop_zero List.take_length Nat.mul_one Nat.zero_add List.map_cons List.map_nil List.nil_append reduceCtorEq not_true_eq_false not_false_eq_true implies_true Bool.not_true Bool.not_false Bool.true_eq_false Bool.false_eq_true
attribute [go_sem] Option.some.injEq Option.isSome_some decide_true decide_false ne_eq Int.toNat_natCast
end equations
end
end
end Go.Am

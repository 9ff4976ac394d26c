/- A part of the proof; no conditions. -/
import Derived.Test.YtlglgadejgdpcaaGreatDoorPart8
set_option linter.unusedSimpArgs false
set_option linter.unusedVariables false
set_option maxHeartbeats 64000000
set_option maxRecDepth 100000
namespace Go.Proofs.YtlglgadejgdpcaaGreatDoor
section
attribute [local congr] Go.Am.ite_cc
open Go Go.Am Go.Asm Go.Mach
def uU:Option (List Nat×Nat)→AV
 |some m=>.tup [fj m,iv .i64 0]
 |none=>.tup [fj ([],0),iv .i64 7]
structure QR (xs:List Nat) (G:Nat→Nat) (O:Obs) (k:Nat) (g:Nat→Nat) (ob:Obs):Prop where
 old:∀id,(id<1000∨id=1111)→id≠6→id≠52→id≠60→g id=G id∧ob id=O id
 e6:g 6=G 6
 o6:∃c,ob 6=some [c]∧c=.osl 52 (g 52) 1 0 k
 o52:∃cells,ob 52=some cells∧cells.take k=jG (xs.take k)∧k≤cells.length
theorem Dn {s:St}{cc:C}{code:List Nat}{d n:Nat} (hc:Frz s cc (dt code)):mZ s [.agg [cc,.d (.int .i64 (d:Nat))],iv .i64 (n:Nat)] (.tup [fj (code,d),iv .i64 (n:Nat)]):=by
 refine⟨_,⟨fj (code,d),_,rfl,⟨[dt code,.int .i64 (d:Nat)],rfl,fun i c hc'=>?_,rfl⟩,_,_,rfl,⟨_,.d _,rfl⟩,rfl⟩,rfl⟩
 match i,hc' with
 |0,hc'=>cases hc';exact⟨_,rfl,hc⟩
 |1,hc'=>cases hc';exact⟨_,rfl,.d _⟩
theorem AJ (s:Str) (hs:s.length≤1000000000):ba Tryz.prog 37 [sv s] (· = uU (eS s)):=by
 refine mK 0 ae mixed Tryz.func37 rfl b9 [.cell 2 35,.tmp 3] rfl c9 c9 (by simp[Tryz.ntmps37]) fun b₀ β0 s0 w0 g=>?_
 have bad:eS s=none→uU (eS s)=.tup [fj ([],0),iv .i64 7]:=fun h=>by rw[h];rfl
 have hw2:IntKind.i64.wrap 65548=65548:=c8
 by_cases h1:s.length<12
 ·have hi:(s.length:Int)<12:=a7
  rw[bad (by unfold eS;rw[if_pos (.inl h1)])]
  simp only[go_sem,hi,dQ]
  exact⟨_,ma,rfl⟩
 have hi:¬(s.length:Int)<12:=a7
 by_cases h2:s.take 4=[83,69,69,68]
 case neg=>
  rw[bad (by unfold eS;rw[if_pos (.inr (.inl h2))])]
  simp only[go_sem,hi,dQ,B3,h2]
  exact⟨a7,_,ma,rfl⟩
 by_cases h3:65548<s.length
 ·have hi3:(65548:Int)<(s.length:Int):=a7
  rw[bad (by unfold eS;rw[if_pos (.inr (.inr h3))])]
  simp only[go_sem,hi,dQ,B3,h2,hw2,hi3]
  exact⟨a7,_,ma,rfl⟩
 have hi3:¬(65548:Int)<(s.length:Int):=a7
 have hI:eS s=match bT ((s.take 12).drop 4) with
  |[n,d]=>if 32768<d∨s.length≠12+4*n then none else some (bT (s.drop 12),d)
  |_=>none:=by
  unfold eS
  rw[if_neg (by rw[not_or,not_or];exact⟨h1,fun h=>h h2,h3⟩)]
  rfl
 rw[hI]
 clear hI bad
 have hlen8:((s.take 12).drop 4).length=8:=by rw[D6,B9];omega
 have hwl:=ie ((s.take 12).drop 4)
 rw[hlen8] at hwl
 have hwlt:=po ((s.take 12).drop 4)
 obtain⟨n,d,hnd⟩:∃n d,bT ((s.take 12).drop 4)=[n,d]:=by
  match hx:bT ((s.take 12).drop 4),hwl with
  |[a,b],_=>exact⟨a,b,rfl⟩
 rw[hnd] at hwlt ⊢
 simp only
 have hn:=hwlt n a8
 have hd:=hwlt d a8
 simp only[go_sem,hi,B3,h2,hw2,hi3]
 refine⟨a7,a7,?_⟩
 refine bL eR rfl (by simp only[go_sem];exact zu ((s.take 12).drop 4) _ _) ?_
 rintro _ g1 ob1 ⟨rfl,o1,hs1⟩
 simp only[go_sem]
 refine bL eR rfl (by simp only[go_sem];exact AI a7 rfl o1) ?_
 rintro _ g2 ob2 ⟨a1,c,rfl,a4⟩
 rw[hnd] at a4
 rcases a4 with⟨w1,_⟩|⟨_,rfl,o1111⟩
 ·cases w1
 have e2:g2 2=nxC 36 (g 2):=by rw[(a1 2 c8).1,(hs1 2 c8).1];simp[upd]
 have o2:ob2 2=some [.d .nsl,.d (.int .i64 0)]:=by rw[(a1 2 c8).2,(hs1 2 c8).2];simp[upd]
 clear a1 hs1 o1
 have hW:∀x:Nat,x<18446744073709551616→IntKind.u64.wrap ((x:Nat):Int)=((x:Nat):Int):=fun x hx=>by rw[IntKind.wrap_u64];omega
 have hW1:=hW s.length a7
 have hW2:=hW n a7
 have hW3:IntKind.u64.wrap (4*(n:Int))=((4*n:Nat):Int):=by rw[show 4*(n:Int)=((4*n:Nat):Int) by omega];exact hW _ a7
 have hW4:IntKind.u64.wrap (12+((4*n:Nat):Int))=((12+4*n:Nat):Int):=by rw[show 12+((4*n:Nat):Int)=((12+4*n:Nat):Int) by omega];exact hW _ a7
 have hW5:IntKind.u64.wrap 12=12:=c8
 by_cases h4:32768<d
 ·have h4i:(32768:Int)<(d:Int):=a7
  rw[if_pos (.inl h4)]
  simp only[go_sem,o1111,jG,h4i,e2,o2,dQ]
  exact⟨_,ma,rfl⟩
 have h4i:¬(32768:Int)<(d:Int):=a7
 by_cases h5:s.length=12+4*n
 case neg=>
  have h5i:¬(s.length:Int)=((12+4*n:Nat):Int):=a7
  rw[if_pos (.inr h5)]
  simp only[go_sem,o1111,jG,h4i,e2,o2,dQ,hW1,hW2,hW3,hW4,hW5,h5i]
  exact⟨_,ma,rfl⟩
 have h5i:(s.length:Int)=((12+4*n:Nat):Int):=a7
 rw[if_neg (by rw[not_or];exact⟨h4,fun h=>h h5⟩)]
 have hW6:=hW (12+4*n) a7
 have hlen:=h5
 simp only[go_sem,o1111,jG,h4i,e2,o2,hW2,hW3,hW4,hW5,h5i,hW6]
 refine⟨a7,a7,a7,a7,?_⟩
 refine bL eR rfl (by simp only[go_sem];exact zu (s.drop 12) _ _) ?_
 rintro _ g3 ob3 ⟨rfl,o1,hs1⟩
 have e6:g3 6=nxC 34 (g2 6):=by rw[(hs1 6 c8).1];simp[upd]
 have he:aD Tt 33=32:=j0
 have o6:ob3 6=some [.osl 52 (g3 52) 1 0 0]:=by rw[(hs1 6 c8).2,(hs1 52 c8).1];simp[upd]
 have o52:ob3 52=some ((List.replicate n [C.d (D.int .u32 0)]).flatten):=by rw[(hs1 52 c8).2];simp[upd]
 have e2':g3 2=nxC 36 (g 2):=by rw[(hs1 2 c8).1];simp[upd,e2]
 have o2':ob3 2=some [.d .nsl,.d (.int .i64 0)]:=by rw[(hs1 2 c8).2];simp[upd,o2]
 have e1111:g3 1111=g2 1111:=by rw[(hs1 1111 c8).1];simp[upd]
 have o1111':ob3 1111=some (jG [n,d]):=by rw[(hs1 1111 c8).2];simp[upd,o1111]
 clear hs1
 have hl12:(s.drop 12).length≤1000000000:=by rw[D6];omega
 have hxl:(bT (s.drop 12)).length=n:=by rw[ie,D6];omega
 generalize hxs:bT (s.drop 12)=xs at hxl ⊢
 simp only[go_sem]
 refine nb (Fin:=fun _ _=>True) ae (fid:=96) (caps:=[.ptr 1001 (g3 1001) 0]) (by simp only[go_sem]) 1290 (fun id=>id=1290∨id=1001) (fun id=>id=1001) (.inl rfl) c8 (fun id h=>.inr h) (fun x:Nat=>[iv .u32 (x:Nat)]) xs (fun x=>rfl) c9 c9
  (fun g' ob' h=>by rw[←hxs];exact zw hl12 (h 1001 c8).1 ((h 1001 c8).2.trans o1))
  (fun _ _ _ _ _ _=>trivial)
  (QR xs g3 ob3) (fun _ _=>False) ?_ ?_ ?_ ?_ ?_ ?_
 ·rintro k g1 ob1 g2 ob2 ⟨a1,a2,⟨c,a3,rfl⟩,cells,a4,a5,a6⟩ h
  have hh:∀id,id<1000∨id=1111→g2 id=g1 id∧ob2 id=ob1 id:=fun id hid=>h id a7
  refine⟨fun id hid h6 h52 h60=>⟨(hh id hid).1.trans (a1 id hid h6 h52 h60).1,(hh id hid).2.trans (a1 id hid h6 h52 h60).2⟩,(hh 6 a7).1.trans a2,⟨_,(hh 6 a7).2.trans a3,by rw[(hh 52 a7).1]⟩,cells,(hh 52 a7).2.trans a4,a5,a6⟩
 ·exact fun _ _ _ _ h _=>h
 ·exact⟨fun _ _ _ _ _=>⟨rfl,rfl⟩,rfl,⟨_,o6,rfl⟩,_,o52,rfl,K9 _⟩
 ·rintro k x g1 ob1 hx ⟨a1,a2,⟨c,a3,rfl⟩,cells,a4,a5,a6⟩ l Φ hΦ
  have hkl:=(l5.1 hx).1
  have hnx:xs.take (k+1)=xs.take k++[x]:=by rw[A7,hx];rfl
  rw[e6] at a2
  simp only[go_sem]
  intro o Φ' hΦ'
  simp only[go_sem,a2,a3,a4,aD]
  refine⟨a6,⟨c8,a7⟩,fun id hid=>by rcases hid with rfl|rfl <;> simp,⟨fun id hid h6 h52 h60=>?_,by simp[upd,a2,e6],⟨_,by simp[upd] <;> rfl,by simp[upd]⟩,_,by simp[upd] <;> rfl,?_,by simp[a6]⟩⟩
  ·have:=a1 id hid h6 h52 h60
   exact⟨by simp only[upd];(repeat rw[if_neg (by omega)]);exact this.1,by simp only[upd];(repeat rw[if_neg (by omega)]);exact this.2⟩
  ·rw[hnx,l6 (by simp[a6]),a5];simp[jG]
 ·rintro g1 ob1 ⟨a1,a2,⟨c,a3,rfl⟩,cells,a4,a5,a6⟩ _
  rw[e6] at a2
  have q2:=a1 2 c8 c8 c8 c8
  have q1111:=a1 1111 c8 c8 c8 c8
  rw[e2',o2'] at q2
  rw[e1111,o1111'] at q1111
  simp only[go_sem]
  refine aI j0 ?_
  have hwd:IntKind.i64.wrap ((d:Nat):Int)=((d:Nat):Int):=by rw[wrap_i64] <;> omega
  rw[l6 (l4 _)] at a5
  simp only[go_sem,a2,a3,q2.1,q2.2,q1111.1,q1111.2,jG,dQ,hwd]
  refine⟨_,Dn (code:=xs) (d:=d) (n:=0) ?_,rfl⟩
  refine EV (cells:=cells) (off:=0) rfl (by simp[upd,a4]) xs (fun n=>.int .u32 (n:Nat)) (fun _=>rfl) rfl (fun j a h=>?_) a7
  have hj:=(l5.1 h).1
  have:(cells.take xs.length)[j]? = some (.d (.int .u32 (a:Nat))):=by rw[a5];unfold jG;rw[x7,h];rfl
  rw[G0,if_pos hj] at this
  rw[C9];exact this
 ·exact fun _ _ h=>h.elim
theorem Cz {gr h2 h3:Nat}{code:List Nat}{inp:Str}{m0:M}{own:Bool}{g:Nat→Nat}{ob:Obs}
  (e3:g 2003=h3) (o3:ob 2003=some [.d (.int .i64 0)]) (hR:Rn gr code inp m0 own g ob) :
  yF Tryz.prog 152 ([PC.ptr 2003 h3 0,PC.ptr 2002 h2 0].map fE) Dm (fun x:Nat=>[iv .i64 (x:Nat)]) g ob [] (fun g' ob'=>∃own',Rn gr code inp m0 own' g' ob'):=by
 refine pN 2500 ae mixed Tryz.func152 rfl b9 rfl c9 c9 (by simp[Tryz.ntmps152]) ?_
 intro b₀ Φ l J Jx hΦ hJ hJx hY h0
 simp only[l7,v7,fE]
 simp only[go_sem]
 refine ak (fun n st=>J 0 st.gen st.obj∧Rn gr code inp m0 own st.gen st.obj∧
  st.f 1=.one (.ptr 2003 h3 0)∧st.f 2=.one (.ptr 2002 h2 0)∧st.f 4=iv .i64 0∧st.gen 2003=h3∧st.obj 2003=some [.d (.int .i64 0)]) 0 ?_ ?_
 ·refine⟨h0,hR,?_⟩
  simp only[go_sem]
  exact⟨e3,o3⟩
 clear h0 hR e3 o3
 rintro n f g ob ⟨hJk,hR,q1,q2,q4,e3,o3⟩
 simp only at hJk hR q1 q2 q4 e3 o3
 simp only[go_sem,q1,q2,q4,e3,o3]
 exact⟨_,ah.refl _,.inl ⟨hJk,own,hR⟩⟩
theorem QJ (code:List Nat) (d:Nat) (inp:Str) :
  ba Tryz.prog 66 [fj (code,d),sv inp,stV (Mach.start d),iv .i64 0] (· = stV (Mach.start d)):=by
 refine mK 0 ae mixed Tryz.func66 rfl b9 [.cell 8 159] rfl c9 c9 (by simp[Tryz.ntmps66]) fun b₀ β0 s0 w0 g=>?_
 have hN:=On code d inp
 unfold fj at hN ⊢
 have hSl:stV (Mach.start d)=.agg ((stD (Mach.start d)).map .d):=rfl
 have hT22:List.take 22 (List.map C.d (stD (Mach.start d)))=List.map C.d (stD (Mach.start d)):=l6 (by simp[stD,Mach.start])
 rw[hSl] at hN ⊢
 simp only[go_sem,hT22]
 refine⟨by simp[stD,Mach.start],?_⟩
 refine bL eR rfl (by simp only[go_sem,hT22];exact hN _ _) ?_
 rintro _ g1 ob1 ⟨f1,rfl,hR⟩
 have e8:g1 8=nxC 160 (g 8):=by rw[(f1 8 c8).1];simp[upd]
 have o8:=(f1 8 c8).2
 simp only[upd] at o8
 simp only[go_sem]
 refine bL eR rfl (by simp only[go_sem];exact GF (g1 3012) 0 _ _) ?_
 rintro _ g2 ob2 ⟨rfl,o3,o2,hs⟩
 have hR2:Rn (g1 3012) code inp (Mach.start d) false g2 ob2:=hR.of (fun i hi=>(hs i a7 a7).1) (fun i hi=>(hs i a7 a7).2)
 have e8':g2 8=nxC 160 (g 8):=by rw[(hs 8 c8 c8).1];exact e8
 have o8':=(hs 8 c8 c8).2.trans o8
 generalize g1 3012=gr at hR2 o2 ⊢
 clear hR e8 o8 hs f1
 simp only[go_sem]
 refine nb (Fin:=fun g' ob'=>∃own',Rn gr code inp (Mach.start d) own' g' ob') ae (fid:=152) (caps:=[.ptr 2003 (g2 2003) 0,.ptr 2002 (g2 2002) 0]) (by simp only[go_sem]) 1400 (fun id=>id=1400∨Dm id) Dm (.inl rfl) (by unfold Dm;omega) (fun id h=>.inr h) (fun x:Nat=>[iv .i64 (x:Nat)]) [] (fun x=>rfl) c9 c9
  (fun g' ob' h=>Cz (h 2003 c8).1 ((h 2003 c8).2.trans o3) (hR2.of (fun i hi=>(h i a7).1) (fun i hi=>(h i a7).2)))
  (fun g' ob' g'' ob'' hf h=>by obtain⟨own',hf⟩:=hf;exact⟨own',hf.of (fun i hi=>(h i a7).1) (fun i hi=>(h i a7).2)⟩)
  (fun _ g' ob'=>g' 8=g2 8∧ob' 8=ob2 8) (fun _ _=>False) ?_ ?_ ?_ ?_ ?_ ?_
 ·rintro k g' ob' g'' ob'' ⟨h1,h2⟩ h
  have:=h 8 (by unfold Dm;omega)
  exact⟨this.1.trans h1,this.2.trans h2⟩
 ·exact fun _ _ _ _ h _=>h
 ·exact⟨rfl,rfl⟩
 ·rintro k x g' ob' hx ⟨h1,h2⟩ l Φ hΦ
  simp only[go_sem]
  exact fun _ _=>⟨h1,h2⟩
 ·rintro g' ob' ⟨h1,h2⟩ ⟨own',hF⟩
  have hgood:=rI d
  generalize Mach.start d=M at hF hgood ⊢
  simp only[go_sem]
  refine bL eR rfl (by simp only[go_sem];exact GE hF hgood.out) ?_
  rintro _ g3 ob3 ⟨f3,e31,o31,mc,rfl,hm⟩
  have e8:g3 8=nxC 160 (g 8):=by rw[(f3 8 c8).1,h1,e8']
  have o8:=((f3 8 c8).2.trans h2).trans o8'
  simp only[A4] at o8
  have hSL:=uS hgood.len mc
  have hT:(stC M mc).take 22=stC M mc:=l6 a7
  simp only[go_sem,e8,o8,hSL]
  rw[mz (by rw[hSL];rfl)]
  refine⟨a7,?_⟩
  rw[hT]
  refine⟨_,pk (m:=M) ?_ rfl,rfl⟩
  rcases hm with⟨_,rfl⟩|⟨_,hne,rfl,hmo⟩
  ·exact .d _
  ·exact lL (by simp only;exact e31) (by simp only[upd];rw[if_neg c8,o31];exact hmo) rfl
 ·exact fun _ _ h=>h.elim
theorem NX (code:List Nat) (d:Nat) (inp:Str) (hd:d≤32768) :
  ba Tryz.prog 39 [fj (code,d),sv inp,iv .i64 0] (fun r=>∃y z,r=GG (5,y,z)):=by
 refine bO ae mixed Tryz.func39 rfl b9 [.cell 6 51] rfl c9 (by simp[Tryz.ntmps39]) fun g=>?_
 have h1:=GC code d hd
 have h2:=QJ code d inp
 have hgood:=rI d
 obtain⟨M,hM⟩:∃M,Mach.start d=M:=⟨_,rfl⟩
 have h0:M.fin=0:=by rw[←hM];rfl
 rw[hM] at h1 h2 hgood
 unfold fj at h1 h2 ⊢
 have hl22:((stD M).map C.d).length=22:=by simp[stD,hgood.len]
 have hg:∀k,k<5→((stD M).map C.d)[17+k]? = ([.d (jL M.mem),.d (.int .i64 (M.rd:Nat)),.d (.str M.out),.d (.int .i64 (M.steps:Nat)),.d (.int .i64 (M.fin:Nat))]:List C)[k]?:=fun k hk=>by
  have hA:(stD M).map C.d=((.int .i64 (M.pc:Nat)::M.reg.map fun x=>D.int .u32 (x:Nat)):List D).map C.d++[.d (jL M.mem),.d (.int .i64 (M.rd:Nat)),.d (.str M.out),.d (.int .i64 (M.steps:Nat)),.d (.int .i64 (M.fin:Nat))]:=by
   unfold stD
   rw[A2]
   rfl
  rw[hA,F8 (by simp[hgood.len])]
  simp only[j6,j7,hgood.len]
  rw[show 17+k-(16+1)=k by omega]
 have g19:((stD M).map C.d)[19]? = some (.d (.str M.out)):=hg 2 c8
 have g20:((stD M).map C.d)[20]? = some (.d (.int .i64 (M.steps:Nat))):=hg 3 c8
 have g21:((stD M).map C.d)[21]? = some (.d (.int .i64 (M.fin:Nat))):=hg 4 c8
 clear hg
 have hLd:eE (.agg ((stD M).map C.d))=true:=by rw[←hM];rfl
 unfold stV at h1 h2
 generalize (stD M).map C.d=L at hLd h1 h2 hl22 g19 g20 g21
 have hT:L.take 22=L:=l6 a7
 simp only[go_sem]
 refine ir ae mixed [7] [([3],[0],[],false),([1],[0],[],false),([3],[0],[],false),([10],[0],[],false),([2],[0],[],false),([8,9,11,12],[0],[],false),([],[],[0],false),([7,13],[],[],true)] 1 j0 rfl c8 ?_
 simp only[go_sem]
 iterate 3 (apply aO;· (intro fa ga oa K' hK;simp only[go_sem] at hK ⊢;exact hK))
 refine aO (v:=.agg L) (fun fa ga oa K' hK=>?_) ?_
 ·simp only[go_sem] at hK ⊢
  refine aY (k:=bx K') rfl (by simp only[go_sem];exact h1) (by simp only[go_sem];rfl) ?_
  rintro _ rfl
  simp only[go_sem]
  exact hK
 (apply aO;· (intro fa ga oa K' hK;simp only[go_sem] at hK ⊢;exact hK))
 refine aO (v:=.agg L) (fun fa ga oa K' hK=>?_) ?_
 ·simp only[go_sem] at hK ⊢
  refine aY (k:=bx K') rfl (by simp only[go_sem];exact h2) (by simp only[go_sem];simp only[D1,List.all_nil,hLd];rfl) ?_
  rintro _ rfl
  simp only[go_sem]
  exact hK
 (apply dR;· (intro fa ga oa K' hK;simp only[go_sem] at hK ⊢;exact hK))
 apply cY
 intro K' hK'
 simp only[go_sem,hl22]
 refine hK' _ ?_
 clear hK' K'
 rw[mz (by rw[hl22];rfl)]
 have hl22':=hl22
 have h0i:(M.fin:Int)=0:=a7
 have s21:(L.set 21 (C.d (D.int .i64 5)))[21]? = some (C.d (D.int .i64 5)):=ry a7
 have s20:(L.set 21 (C.d (D.int .i64 5)))[20]? = some (.d (.int .i64 (M.steps:Nat))):=by rw[du c8];exact g20
 have s19:(L.set 21 (C.d (D.int .i64 5)))[19]? = some (.d (.str M.out)):=by rw[du c8];exact g19
 simp only[go_sem,g21,h0i,s21,s20,s19]
 exact⟨a7,_,Kc (a:=(5:Nat)),M.out,M.steps,rfl⟩
theorem Fu (s inp:Str) (hs:s.length≤1000000000):ba Tryz.prog 19 [sv s,sv inp,iv .i64 0] (fun r=>∃(x:Nat) (y:Str) (z e:Nat),r=.tup [GG (x,y,z),iv .i64 e]∧(e≠0∨x≠1)):=by
 refine bO ae mixed Tryz.func19 rfl b9 [.cell 6 51,.tmp 7] rfl c9 (by simp[Tryz.ntmps19]) fun g=>?_
 have hr:=fun m (h:eS s=some m)=>sG h
 simp only[go_sem]
 refine aY rfl (by simp only[go_sem];exact AJ s hs) (by simp only[go_sem];cases eS s <;> rfl) ?_
 rintro _ rfl
 cases hm:eS s with
 |none=>
   unfold uU fj
   simp only[go_sem,dQ]
   exact⟨_,zA (e:=0) (n:=0),0,[],0,7,rfl,.inl c8⟩
 |some m=>
   obtain⟨code,d⟩:=m
   obtain⟨r1,r2,r3⟩:=hr _ hm
   have hR:=NX code d inp r2
   unfold fj at hR
   unfold uU fj
   unfold GG at hR
   simp only at hR
   simp only[go_sem]
   refine aY rfl (by simp only[go_sem];exact hR) (by simp only[go_sem];rfl) ?_
   rintro _ ⟨y,z,rfl⟩
   simp only[go_sem]
   exact⟨_,zA (e:=5) (n:=z),5,y,z,0,rfl,.inr c8⟩
end
end Go.Proofs.YtlglgadejgdpcaaGreatDoor
namespace Go.Am
section
section
def PH (B:Nat):PC→Prop
 |.d _=>True
 |.ptr id _ _=>id<B
def lh (B:Nat):C→Prop
 |.d _=>True
 |.osl id _ _ _ _=>id<B
 |.ptr id _ _=>id<B
 |.mp id _ _=>id<B
 |.lsl _=>True
 |.raw _=>True
 |.clo _ caps=>∀p∈caps,PH B p
def PI (B:Nat) (g:Nat→Nat):PC→Prop
 |.d _=>True
 |.ptr id g1 _=>id<B∨g1≤g id
def okC (B:Nat) (g:Nat→Nat):C→Prop
 |.d _=>True
 |.osl id g1 _ _ _=>id<B∨g1≤g id
 |.ptr id g1 _=>id<B∨g1≤g id
 |.mp id g1 _=>id<B∨g1≤g id
 |.lsl _=>True
 |.raw _=>True
 |.clo _ caps=>∀p∈caps,PI B g p
variable {g:Nat→Nat}{B:Nat}{w':World}{c:C}{β' β2:Loc}{g1 g2:Nat→Nat}{ob1 ob2:Obs}{ob:Obs}{cells:List C}{xs:List AV}{R:AV→(Nat→Nat)→Obs→Prop}
theorem lh.ok (h:lh B c):okC B g c:=by
 cases c with
 |osl=>exact .inl h
 |ptr=>exact .inl h
 |mp=>exact .inl h
 |clo f caps=>
   intro p hp
   have:=h p hp
   cases p with
   |d=>trivial
   |ptr=>exact .inl this
 |d=>trivial
 |lsl=>trivial
 |raw=>trivial
def iD (S:List Nat) (g g':Nat→Nat):Nat→Nat:=fun i=>if i∈S then g' i else g i
def eD (S:List Nat) (ob ob':Obs):Obs:=fun i=>if i∈S then ob' i else ob i
structure BE (B:Nat) (S:List Nat) (g:Nat→Nat) (ob:Obs) (g':Nat→Nat) (ob':Obs):Prop where
 same:∀i,i<B→i∉S→g' i=g i∧ob' i=ob i
 low:∀i∈S,∀cells,ob' i=some cells→∀c∈cells,lh B c
section
variable {P:Program}{T:Nat→TI}{b₀:Bs}{β:Loc}{w:World}
theorem aw.okC {B:Nat}{g:Nat→Nat}{ob:Obs}{c:C}{v:Value} (h:aw b₀ β g ob w c v):okC B g c:=by
 cases c with
 |d=>trivial
 |osl=>exact .inr h.2.1
 |ptr=>exact .inr h.2.1
 |mp=>exact .inr h.2.1
 |lsl=>trivial
 |raw=>trivial
 |clo f caps=>
   obtain⟨vs,_,h2,h3⟩:=h
   intro p hp
   obtain⟨i,hi⟩:=C2 hp
   obtain⟨u,_,hr⟩:=h3 i p hi
   cases p with
   |d=>trivial
   |ptr=>exact .inr hr.2.1
theorem cO.okC {B:Nat}{g:Nat→Nat}{R:C→Value→Prop} (hR:∀c v,R c v→Go.Am.okC B g c) {kd:TypeDesc}{cs:List C}{es:List MapEntry} (h:cO R kd cs es):∀c∈cs,Go.Am.okC B g c:=by
 induction h with
 |nil=>intro c hc;cases hc
 |cons hk h1 h2 _ ih=>
   intro c hc
   simp only[x8] at hc
   rcases hc with rfl|rfl|hc
   ·trivial
   ·exact hR _ _ h2
   ·exact ih c hc
theorem gy.okC {B:Nat}{g:Nat→Nat}{ob:Obs}{kd:Nat}{c:C}{v:Value} (h:gy b₀ β g ob w kd c v):Go.Am.okC B g c:=by
 unfold gy at h
 split at h
 ·exact aw.okC h
 ·obtain⟨ds,vs,rfl,_⟩:=h
  trivial
theorem bX.okC {B:Nat}{g:Nat→Nat}{ob:Obs}{e:Nat}{cells:List C}{x:Option Addr} (h:bX b₀ β g ob w e cells x):∀c∈cells,Go.Am.okC B g c:=by
 intro c hc
 cases x with
 |none=>have h:cells=[]:=h;subst h;cases hc
 |some a=>
   cases hs:a.spot with
   |none=>
     obtain⟨_,arr,el,lo,hi,_,_,_,h6⟩:=h.cells hs
     obtain⟨i,hi⟩:=C2 hc
     obtain⟨v,_,hr⟩:=h6 i c hi
     exact hr.okC
   |some kd=>
     obtain⟨_,⟨es,clock,_,h4⟩|⟨_,o,h3,_⟩⟩:=h.map hs
     ·exact cO.okC (fun _ _=>gy.okC) h4 c hc
     ·subst h3
      simp only[D0] at hc
      subst hc
      trivial
structure Conv (b₀:Bs) (B:Nat) (g:Nat→Nat) (β':Loc) (g1:Nat→Nat) (ob1:Obs) (w':World) (β2:Loc) (g2:Nat→Nat) (ob2:Obs):Prop where
 imm:∀b,Imm b₀ β' ob1 w' b→Imm b₀ β2 ob2 w' b
 live:∀id,id<B→g2 id=g1 id∧((ob2 id).isSome=true→(ob1 id).isSome=true∧β2 id=β' id)
 dead:∀id,¬id<B→ob2 id=none∧g2 id=g id
theorem Conv.rep (hc:Conv b₀ B g β' g1 ob1 w' β2 g2 ob2){v:Value} (hok:okC B g c) (h:aw b₀ β' g1 ob1 w' c v):aw b₀ β2 g2 ob2 w' c v:=by
 have hle:∀id x,id<B∨x≤g id→x≤g1 id→x≤g2 id:=fun id x hx h1=>by
  by_cases hb:id<B
  ·rw[(hc.live id hb).1];exact h1
  ·rw[(hc.dead id hb).2];exact hx.resolve_left hb
 have hlv:∀id x,g2 id=x→(ob2 id).isSome=true→g1 id=x∧(ob1 id).isSome=true∧β2 id=β' id:=fun id x hx ho=>by
  by_cases hb:id<B
  ·exact⟨by rw[←(hc.live id hb).1];exact hx,(hc.live id hb).2 ho⟩
  ·rw[(hc.dead id hb).1] at ho;cases ho
 cases c with
 |d x=>exact bA.mono h fun b hb=>⟨hc.imm b hb,rfl⟩
 | osl id x sz off len=>exact⟨h.1,hle id x hok h.2.1,fun hg ho=>by
    obtain⟨l1,l2,l3⟩:=hlv id x hg ho
    rw[l3];exact h.2.2 l1 l2⟩
 | ptr id x off=>exact⟨h.1,hle id x hok h.2.1,fun hg ho=>by
    obtain⟨l1,l2,l3⟩:=hlv id x hg ho
    rw[l3];exact h.2.2 l1 l2⟩
 | mp id x kd=>exact⟨h.1,hle id x hok h.2.1,fun hg ho=>by
    obtain⟨l1,l2,l3⟩:=hlv id x hg ho
    rw[l3];exact h.2.2 l1 l2⟩
 |lsl n=>exact h
 |raw o=>exact h.elim
 |clo f caps=>
   obtain⟨vs,h1,h2,h3⟩:=h
   refine⟨vs,h1,h2,fun i pc hp=>?_⟩
   obtain⟨u,hu,hr⟩:=h3 i pc hp
   refine⟨u,hu,?_⟩
   have hpok:=hok pc (l8 hp)
   cases pc with
   |d x=>exact bA.mono hr fun b hb=>⟨hc.imm b hb,rfl⟩
   | ptr id x off=>exact⟨hr.1,hle id x hpok hr.2.1,fun hg ho=>by
      obtain⟨l1,l2,l3⟩:=hlv id x hg ho
      rw[l3];exact hr.2.2 l1 l2⟩
theorem Conv.repM (hc:Conv b₀ B g β' g1 ob1 w' β2 g2 ob2) {kd:Nat}{v:Value} (hok:okC B g c) (h:gy b₀ β' g1 ob1 w' kd c v):gy b₀ β2 g2 ob2 w' kd c v:=by
 unfold gy at h ⊢
 split
 ·rename_i hk
  rw[if_pos hk] at h
  exact hc.rep hok h
 ·rename_i hk
  rw[if_neg hk] at h
  obtain⟨ds,vs,q1,q2,q3,q4⟩:=h
  exact⟨ds,vs,q1,q2,q3,fun i x hx=>let ⟨u,hu,hr⟩:=q4 i x hx;⟨u,hu,bA.mono hr fun b hb=>⟨hc.imm b hb,rfl⟩⟩⟩
theorem cO.okMono{R R':C→Value→Prop}{kd:TypeDesc}{cs:List C}{es:List MapEntry} (h:cO R kd cs es) (hok:∀c∈cs,Go.Am.okC B g c) (hr:∀c v,Go.Am.okC B g c→R c v→R' c v):cO R' kd cs es:=by
 induction h with
 |nil=>exact .nil
 |cons hk h1 h2 _ ih=>exact .cons hk h1 (hr _ _ (hok _ a8) h2) (ih fun c hc=>hok c (by simp[hc]))
theorem Conv.obj (hc:Conv b₀ B g β' g1 ob1 w' β2 g2 ob2) {e:Nat}{x:Option Addr} (hok:∀c∈cells,okC B g c) (h:bX b₀ β' g1 ob1 w' e cells x):bX b₀ β2 g2 ob2 w' e cells x:=by
 cases x with
 |none=>exact h
 |some a=>
   cases hs:a.spot with
   |none=>
     obtain⟨h1,arr,el,lo,hi,h2,h3,h4,h6⟩:=h.cells hs
     refine .ofCells hs ⟨h1,arr,el,lo,hi,h2,h3,h4,fun j c hj=>?_⟩
     obtain⟨v,hv,hr⟩:=h6 j c hj
     exact⟨v,hv,hc.rep (hok c (l8 hj)) hr⟩
   |some kd=>
     obtain⟨h1,⟨es,clock,h2,h4⟩|hraw⟩:=h.map hs
     ·exact .ofMap hs ⟨h1,.inl ⟨es,clock,h2,h4.okMono hok fun _ _ q1 q2=>hc.repM q1 q2⟩⟩
     ·exact .ofMap hs ⟨h1,.inr hraw⟩
theorem vx {N M:Nat}{S:List Nat}{fa:Nat→AV}{a0 a':Act}{s':St}{β':Loc} (hr0:Rel b₀ M ⟨fa,g,ob⟩ β a0 w) (hr:Rel b₀ N s' β' a' w')
  {s0:St} (h0g:s0.gen=g) (h0o:s0.obj=ob) (ht:Tr b₀ β s0 w β' s' w') (hS:∀i∈S,i<B) (hB:∀i,B≤i→ob i=none) (he:BE B S g ob s'.gen s'.obj) :
  ∃β2:Loc,Conv b₀ B g β' s'.gen s'.obj w' β2 (iD S g s'.gen) (eD S ob s'.obj)∧
   (∀id cells,eD S ob s'.obj id=some cells→bX b₀ β2 (iD S g s'.gen) (eD S ob s'.obj) w' (iD S g s'.gen id) cells (β2 id))∧
   (∀id id' a a',(eD S ob s'.obj id).isSome=true→(eD S ob s'.obj id').isSome=true→β2 id=some a→β2 id'=some a'→a.block=a'.block→id=id')∧
   (∀id,(eD S ob s'.obj id).isSome=true→(s'.obj id).isSome=true∧¬B≤id∧β2 id=β' id)∧
   Tr b₀ β ⟨fa,g,ob⟩ w β2 ⟨fa,iD S g s'.gen,eD S ob s'.obj⟩ w':=by
 subst h0g h0o
 have hlow:∀id,(s0.obj id).isSome=true→id<B:=fun id ho=>Q1 fun hc=>by
  rw[hB id a7] at ho;cases ho
 have hmem:∀id,id∈S→iD S s0.gen s'.gen id=s'.gen id∧eD S s0.obj s'.obj id=s'.obj id:=fun id h=>⟨if_pos h,if_pos h⟩
 have hnot:∀id,id∉S→iD S s0.gen s'.gen id=s0.gen id∧eD S s0.obj s'.obj id=s0.obj id:=fun id h=>⟨if_neg h,if_neg h⟩
 have hkl:∀id,id∉S→(s0.obj id).isSome=true→s'.gen id=s0.gen id∧(s'.obj id).isSome=true∧β' id=β id:=fun id h ho=>by
  obtain⟨q1,q2⟩:=he.same id (hlow id ho) h
  have q3:(s'.obj id).isSome=true:=by rw[q2];exact ho
  exact⟨q1,q3,(ht.keep.live id q1 q3).2.1⟩
 let β2:Loc:=fun id=>if id∈S then β' id else β id
 have hβm:∀id,id∈S→β2 id=β' id:=fun id h=>if_pos h
 have hβn:∀id,id∉S→β2 id=β id:=fun id h=>if_neg h
 have hall:∀id,(eD S s0.obj s'.obj id).isSome=true→(s'.obj id).isSome=true∧¬B≤id∧β2 id=β' id:=fun id ho=>by
  by_cases h:id∈S
  ·rw[(hmem id h).2] at ho
   exact⟨ho,by have:=hS id h;omega,hβm id h⟩
  ·rw[(hnot id h).2] at ho
   obtain⟨_,q2,q3⟩:=hkl id h ho
   exact⟨q2,by have:=hlow id ho;omega,(hβn id h).trans q3.symm⟩
 have himm:∀b,Imm b₀ β' s'.obj w' b→Imm b₀ β2 (eD S s0.obj s'.obj) w' b:=fun b hb=>⟨hb.1,hb.2.1,fun id a ho hβ=>by
  obtain⟨q1,_,q3⟩:=hall id ho
  exact hb.2.2 id a q1 (by rw[←q3];exact hβ)⟩
 have hconv:Conv b₀ B s0.gen β' s'.gen s'.obj w' β2 (iD S s0.gen s'.gen) (eD S s0.obj s'.obj):=by
  refine⟨himm,fun id hb=>⟨?_,fun ho=>⟨(hall id ho).1,(hall id ho).2.2⟩⟩,fun id hb=>?_⟩
  ·by_cases h:id∈S
   ·exact(hmem id h).1
   ·rw[(hnot id h).1,(he.same id hb h).1]
  ·have h:id∉S:=fun h=>hb (hS id h)
   exact⟨by rw[(hnot id h).2];exact hB id a7,(hnot id h).1⟩
 refine⟨β2,hconv,fun id cells hc=>?_,fun i1 i2 a1 a2 h1 h2 e1 e2 hb=>?_,hall,ht.size,ht.old,⟨fun b hb=>⟨himm b (ht.imm b hb).1,(ht.imm b hb).2⟩,fun id=>?_,fun id hg ho=>?_⟩,ht.os⟩
 ·by_cases h:id∈S
  ·rw[(hmem id h).1,hβm id h]
   rw[(hmem id h).2] at hc
   exact hconv.obj (fun c hcc=>(he.low id h cells hc c hcc).ok) (hr.obj id cells hc)
  ·rw[(hnot id h).1,hβn id h]
   rw[(hnot id h).2] at hc
   have ho:(s0.obj id).isSome=true:=by rw[hc];rfl
   obtain⟨q1,q2,q3⟩:=hkl id h ho
   have h1:=hr.obj id cells (by rw[(he.same id (hlow id ho) h).2];exact hc)
   rw[q1,q3] at h1
   exact hconv.obj (fun c hcc=>(hr0.obj id cells hc).okC c hcc) h1
 ·obtain⟨p1,_,p3⟩:=hall i1 h1
  obtain⟨p4,_,p6⟩:=hall i2 h2
  exact hr.inj i1 i2 a1 a2 p1 p4 (by rw[←p3];exact e1) (by rw[←p6];exact e2) hb
 ·show s0.gen id≤iD S s0.gen s'.gen id
  by_cases h:id∈S
  ·rw[(hmem id h).1];exact ht.gen id
  ·rw[(hnot id h).1];exact l4 _
 ·change iD S s0.gen s'.gen id=s0.gen id at hg
  change (eD S s0.obj s'.obj id).isSome=true at ho
  by_cases h:id∈S
  ·rw[(hmem id h).1] at hg
   rw[(hmem id h).2] at ho
   obtain⟨q1,q2,q3⟩:=ht.keep.live id hg ho
   exact⟨q1,(hβm id h).trans q2,q3⟩
  ·rw[(hnot id h).2] at ho
   obtain⟨q1,q2,q3⟩:=hkl id h ho
   exact⟨ho,hβn id h,(ht.keep.live id q1 q2).2.2⟩
theorem ej.repL {B N:Nat}{s:St}{a:Act}{ob':Obs} (hob':∀id,(ob' id).isSome=true→(s.obj id).isSome=true∧¬B≤id) (hr:Rel b₀ N s β a w) {g':Nat→Nat}{β':Loc} (hβ:∀id,(ob' id).isSome=true→β' id=β id) :
  ∀{ts rs:List AV}{vs:List Value},ej B s ts rs→ax b₀ β s.gen s.obj w ts vs→ax b₀ β' g' ob' w rs vs
 |[],rs,vs,h,hv=>by simp only[ej] at h;subst h;simp only[ax] at hv ⊢;exact hv
 |t::ts,rs,vs,h,hv=>by
   simp only[ej] at h
   obtain⟨r,rs',rfl,h1,h2⟩:=h
   simp only[ax] at hv ⊢
   obtain⟨u,us,e,h3,h4⟩:=hv
   exact⟨u,us,e,h1.rep hob' hr h3 hβ,ej.repL hob' hr hβ h2 h4⟩
def aQ (B:Nat) (S:List Nat) (g:Nat→Nat) (ob:Obs) (R:AV→(Nat→Nat)→Obs→Prop) (s:St) (avs:List AV):Prop:=BE B S g ob s.gen s.obj∧∃rs',ej B s avs rs'∧R (pack rs') (iD S g s.gen) (eD S ob s.obj)
def ML (T:Nat→TI) (rs:List ResultVar) (B:Nat) (S:List Nat) (g:Nat→Nat) (ob:Obs) (R:AV→(Nat→Nat)→Obs→Prop):Exit→St→Prop
 |.normal,s|.ret,s=>∃s',ah s s'∧iu T s' rs (bx fun avs=>aQ B S g ob R s' avs)
 |_,_=>False
def EZ (B:Nat) (S:List Nat) (g:Nat→Nat) (ob:Obs) (X:Pan):fF:=fun ch s=>BE B S g ob s.gen s.obj∧X ch (iD S g s.gen) (eD S ob s.obj)
theorem al (B:Nat) (S:List Nat) (hT:aF P T) (hm:P.follows .mixedOrders=true) {f:FuncId}{fn:Func}{c:Code} (hf:P.funcs[f]? = some fn) (hb:fn.body=some c) (hn:(fn.name == "runtime.NumGoroutine")=false)
  (rs:List ResultVar) (hres:fn.results=rs.toArray) (hcm:eO c=true) (hok:codeOk fn.ntmps c=true) (hargs:xs.length≤fn.ntmps){X:Pan}
  (hS:∀i∈S,i<B) (hB:∀i,B≤i→ob i=none)
  (h:∀b₀ β0 s0 w0,wpC (spF P none b₀ (BC b₀ β0 s0 w0) B (EZ B S g ob X)) T c (bx (ML T rs B S g ob R)) ⟨bY xs,g,ob⟩):dF P f xs g ob R X:=by
 refine⟨⟨fn,hf,by rw[hb];rfl,hn⟩,fun b₀ N β a fa w vs hr0 hv=>?_⟩
 refine dS (n:=0) (callsIn_of_wp hf hb trivial ?_)
 have hr:=iw (N:=fn.ntmps) hargs hr0 hv
 refine wpIn_mono (bb (rd:=none) (B:=B) (ds:=[]) hT hm aa c hcm hok hr ⟨rfl,Tr.refl⟩ (h b₀ β ⟨bY xs,g,ob⟩ w)) (fun e a' w' hp=>?_)
 obtain⟨s',β',a0,ds',rfl,hQ,hr',rfl,ht⟩:=hp
 rcases hQ with hQ|⟨ch,rfl,hE,hX⟩
 ·have hres':ML T rs B S g ob R .ret s'→∃v,(results fn a0.tmps).run P w'=.ok v w'∧IU b₀ β fa g ob w R X (.returned v) w':=by
   rintro⟨s2,hvs,hR⟩
   obtain⟨β2,hr2,ht2⟩:=hvs b₀ fn.ntmps β' a0 w' hr'
   have hta:=ht.trans ht2
   obtain⟨v,avs,h1,⟨hE,rs',hfz,hR'⟩,h3,vs',rfl,h4⟩:=bS hT hr2 hres hR
   obtain⟨β3,hcv,k1,k2,k3,k4⟩:=vx (a0:=a) (fa:=fa) hr0 hr2 rfl rfl hta hS hB hE
   refine⟨jU vs',h1,.inl ⟨jU vs',_,_,_,β3,rfl,hR',vo (hfz.repL (fun id ho=>⟨(k3 id ho).1,(k3 id ho).2.1⟩) hr2 (fun id ho=>(k3 id ho).2.2) h4),k1,k2,k4⟩⟩
  cases e with
  |normal=>exact⟨rfl,hres' hQ⟩
  |ret=>exact⟨rfl,hres' hQ⟩
  |exit id=>exact hQ.elim
  |goto l=>exact hQ.elim
  |panic ch=>exact hQ.elim
  |outgrown=>exact hQ.elim
 ·obtain⟨β3,hcv,k1,k2,k3,k4⟩:=vx (a0:=a) (fa:=fa) hr0 hr' rfl rfl ht hS hB hE
  exact⟨rfl,.inr ⟨ch,_,_,β3,rfl,hX,k1,k2,k4⟩⟩
theorem dF.toR {f:FuncId} (h:dF P f xs g ob R (fun _ _ _=>False)):gf P f xs g ob R:=
 ⟨h.1,fun b₀ N β a fa w vs h1 h2=>(h.2 b₀ N β a fa w vs h1 h2).mono fun _ _ q=>q.elim id fun⟨_,_,_,_,_,h,_⟩=>h.elim⟩
theorem BF {t:Nat}{g g':Nat→Nat} (h:g' t=g t):iD [t] g g'=g:=by
 funext i
 simp only[iD,D0]
 split
 ·rename_i e;subst e;exact h
 ·rfl
theorem BG {t:Nat}{ob ob':Obs}:eD [t] ob ob'=upd ob t (ob' t):=by
 funext i
 simp only[eD,D0,upd]
 split
 ·rename_i e;subst e;rfl
 ·rfl
theorem BH {g g':Nat→Nat}:iD [] g g'=g:=by funext i;simp[iD]
theorem BI {ob ob':Obs}:eD [] ob ob'=ob:=by funext i;simp[eD]
theorem dX {α:Type}{P:Nat→Prop}{s:St}{id g sz n:Nat} (hp:P id) (hg:s.gen id=g) (l:List α) (enc:α→List D) (ho:s.obj id=some cells) (hc:cells=l.flatMap (fun a=>(enc a).map .d)) (hsz:∀a∈l,(enc a).length=sz) (hn:l.length=n) :
  eW P s (.osl id g sz 0 n) (.sl (l.map enc)):=by
 have hfl:(l.map enc).flatten.map C.d=cells:=by rw[hc,List.flatMap_def,List.map_flatten,RF];rfl
 have hlen:(l.map enc).flatten.length=n*sz:=by
  rw[←hn];clear ho hc hn hfl
  induction l with
  |nil=>simp
  |cons a l ih=>simp only[l7,G6,j5,j7,hsz a a8,ih (fun b hb=>hsz b (by simp[hb])),D8];omega
 refine .osl hp hg ho (by rw[←hfl,j6,hlen];omega) (by simpa using hn) (fun e he=>by obtain⟨a,ha,rfl⟩:=I2.1 he;exact hsz a ha) (fun j=>.d ((l.map enc).flatten.getD j default)) (fun j x hx=>?_) (fun j x hx=>?_)
 ·rw[C9,←hfl,x7,hx]
  simp[List.getD,hx]
 ·simp only[List.getD,hx,x6]
  exact .d x
end
end
section
def fal (o:Oper):Bool:=match o.op with|.call ⟨.value _,_,_⟩=>true|_=>false
def HE (S:Sp) (T:Nat→TI) (ops:Array Oper) (ids:List Nat) (z:Prop) (e:Ent) (s:St) (v:AV) (m:List (Nat×Option (List C))):Prop:=
 (∀(fa:Nat→AV) (ga:Nat→Nat) (oa:Nat→Option (List C)) (K':St→Prop),((fal e.o=true→z)→K' (eA ids e v m ⟨maskf e.rd s.f fa,maskm ids e.hd s.gen ga,maskm ids e.hd s.obj oa⟩))→opA S T e.o ⟨maskf e.rd s.f fa,maskm ids e.hd s.gen ga,maskm ids e.hd s.obj oa⟩ (bx K'))∧GdE ops e s
def HF (S:Sp) (T:Nat→TI) (ops:Array Oper) (e:Ent) (s:St) (K:St→Prop):Prop:=(fal e.o=false∧yC S T e.o s K)∧GdE ops e s
def eX (S:Sp) (T:Nat→TI) (ops:Array Oper) (ids:List Nat) (z:Prop):List Ent→St→{K:St→Prop}→Box K→Prop
 |[],s,K,_=>K s
 |e::r,s,K,k=>match e.full with
   |true=>HF S T ops e s K
   |false=>∃v m,(m.length=e.ef.length∧HE S T ops ids z e s v m)∧eX S T ops ids z r (eA ids e v m s) k
theorem qR {S:Sp}{T:Nat→TI}{ops:Array Oper}{ids:List Nat}{z:Prop}{K:St→Prop}{k:Box K}:∀(l:List Ent) (s:St),eX S T ops ids z l s k→(∀i e,l[i]? = some e→e.full=true→i+1=l.length)→
  ∃t:Nat→St,t 0=s∧(∀i e,l[i]? = some e→e.full=false→∃v m,(m.length=e.ef.length∧HE S T ops ids z e (t i) v m)∧t (i+1)=eA ids e v m (t i))∧(∀i e,l[i]? = some e→e.full=true→HF S T ops e (t i) K)∧
   ((∀(i:Nat) (e:Ent),l[i]? = some e→e.full=false)→K (t l.length))
 |[],s,h,_=>⟨fun _=>s,rfl,fun i e hi=>(by simp at hi),fun i e hi=>(by simp at hi),fun _=>h⟩
 |e::r,s,h,hl=>by
   unfold eX at h
   cases hf:e.full with
   |true=>
     rw[hf] at h
     have h0:=hl 0 e rfl hf
     have:r=[]:=y2 (by simpa using h0)
     subst this
     refine⟨fun _=>s,rfl,fun i e' hi hf'=>?_,fun i e' hi _=>?_,fun ha=>?_⟩
     ·cases i with
      |zero=>simp at hi;subst hi;rw[hf] at hf';cases hf'
      |succ i=>simp at hi
     ·cases i with
      |zero=>simp at hi;subst hi;exact h
      |succ i=>simp at hi
     ·have:=ha 0 e rfl;rw[hf] at this;cases this
   |false=>
     rw[hf] at h
     obtain⟨v,m,hs,hr⟩:=h
     obtain⟨t,t0,t1,t2,t3⟩:=qR r _ hr (fun i e' hi hf'=>by have:=hl (i+1) e' (by simpa using hi) hf';simpa using this)
     refine⟨fun i=>match i with|0=>s|i+1=>t i,rfl,fun i e' hi hf'=>?_,fun i e' hi hf'=>?_,fun ha=>?_⟩
     ·cases i with
      |zero=>simp at hi;subst hi;exact⟨v,m,hs,t0⟩
      |succ i=>exact t1 i e' (by simpa using hi) hf'
     ·cases i with
      |zero=>simp at hi;subst hi;rw[hf] at hf';cases hf'
      |succ i=>exact t2 i e' (by simpa using hi) hf'
     ·exact t3 (fun i e' hi=>ha (i+1) e' (by rw[s9];exact hi))
variable {v:AV}{ops:Array Oper}{Q:Exit→St→Prop}{y:Option (List C)}
section
variable {P:Program}{T:Nat→TI}{b₀:Bs}{β:Loc}{w:World}
theorem BJ {S:Sp}{s:St}{z:Prop} (ids:List Nat) (tb:List (List Nat×List Nat×List Nat×Bool)) (nid:Nat) (hok:oK ops tb nid=true) (hnid:ids.length=nid) (hnd:ids.Nodup)
  (h:eX S T ops ids z (cW ops.toList tb) s (bx fun s'=>z→Q .normal s')):nz ops=true∧∃I:(Nat→Bool)→St→Prop,I (fun _=>false) s∧
    (∀(L:Nat→Bool) (s:St) (i:Nat) (o:Oper),I L s→ops[i]? = some o→L i=false→(∀e∈o.after.toList,Region.binds .any e=true→L e.on=true)→
      (∀j o',L j=true→ops[j]? = some o'→∀e∈o'.after.toList,Region.binds .any e=true→L e.on=true)→kD ops o s∧opA S T o s (bx fun s'=>I (upd L i true) s'))∧
    (∀L s',I L s'→(∀i,i<ops.size→L i=true)→(∃(i:Nat) (o:Oper),ops[i]? = some o∧fal o=true)→Q .normal s'):=by
 subst hnid
 unfold oK uk at hok
 generalize vm ops=tab at hok
 simp only[l9,E7] at hok
 obtain⟨⟨⟨hbk,hcl⟩,htl⟩,hall⟩:=hok
 have hzl:(cW ops.toList tb).length=ops.size:=by rw[nB (by simpa using htl)];simp
 have hent:∀i,i<ops.size→∃e,(cW ops.toList tb)[i]? = some e∧ops[i]? = some e.o∧tb[i]? = some (e.rd,e.hd,e.ef,e.full):=fun i hi=>by
  have h1:i<(cW ops.toList tb).length:=a7
  refine⟨_,u3 h1,?_⟩
  have:=cL (u3 h1)
  simpa using this
 have hinj:∀a b,a<ids.length→b<ids.length→ids.getD a 0=ids.getD b 0→a=b:=fun a b ha hb e=>by
  rw[D2,D2,u3 ha,u3 hb] at e
  simp only[x6] at e
  exact(RA hnd).1 e
 -- the checks,by operation
 have hchk:∀(i:Nat) (e:Ent),i<ops.size→ops[i]? = some e.o→tb[i]? = some (e.rd,e.hd,e.ef,e.full)→
   (∀r∈e.rd,∀(j:Nat) (e':Oper),j<ops.size→ops[j]? = some e'→e'.dst=some r→(((tb[j]?).map fun t'=>t'.2.2.2).getD false)=false→eJ tab i j=true)∧
   (∀(j:Nat) (o':Oper),j<ops.size→j≠i→ops[j]? = some o'→o'.dst=none∨o'.dst≠e.o.dst)∧
   (∀a,a<ids.length→a∉e.hd→∀j t',j<ops.size→tb[j]? = some t'→a∈t'.2.2.1→eJ tab i j=true∨eJ tab j i=true∨i=j)∧
   (∀a∈e.hd,a<ids.length)∧(∀a∈e.ef,a<ids.length)∧
   (∀a∈e.ef,∀j t',j<ops.size→tb[j]? = some t'→a∈t'.2.2.1→eJ tab i j=true∨eJ tab j i=true∨i=j)∧
   (e.full=true→i+1=ops.size∧∀j,j<i→eJ tab i j=true):=by
  intro i e hi ho ht
  have h1:=s7.1 hall i (z8.2 hi)
  rw[ho,ht] at h1
  simp only[C7,w7,x6,l9] at h1
  obtain⟨⟨⟨⟨⟨⟨c1,c2⟩,c3⟩,c4⟩,c5⟩,c6⟩,c7⟩:=h1
  refine⟨fun r hr j o' hj hoj hd hfj=>?_,fun j o' hj hne hoj=>?_,fun a ha hna j t' hj htj hat=>?_,fun a ha=>?_,fun a ha=>?_,fun a ha j t' hj htj hat=>?_,fun hf=>?_⟩
  ·have:=s7.1 (s7.1 c1 r hr) j (z8.2 hj)
   rw[hoj,hfj] at this
   simp only[w7,x6,RO,B5,A5] at this
   rcases this with h|h
   ·exact h
   ·exact absurd hd h
  ·have:=s7.1 c2 j (z8.2 hj)
   rw[hoj] at this
   simp only[w7,x6,B5,A5,E7,M8] at this
   rcases this with h|h|h
   ·exact absurd h.symm hne
   ·exact .inl h
   ·exact .inr h
  ·have:=s7.1 c3 a (z8.2 ha)
   simp only[B5,F1,s7,z8] at this
   rcases this with h|h
   ·exact absurd h hna
   ·have:=h j hj
    rw[htj] at this
    simp only[w7,x6,E7,D4] at this
    rcases this with((h|h)|h)|h
    ·exact .inl h
    ·exact .inr (.inl h)
    ·exact .inr (.inr h)
    ·rw[F1.2 hat] at h;cases h
  ·exact G3 (s7.1 c4 a ha)
  ·exact G3 (s7.1 c5 a ha)
  ·have:=s7.1 (s7.1 c6 a ha) j (z8.2 hj)
   rw[htj] at this
   simp only[w7,x6,B5,E7,D4] at this
   rcases this with((h|h)|h)|h
   ·exact .inl h
   ·exact .inr (.inl h)
   ·exact .inr (.inr h)
   ·rw[F1.2 hat] at h;cases h
  ·rw[hf] at c7
   simp only[L6,N3,l9,E7,s7,z8] at c7
   exact c7
 have hfull:∀(i:Nat) (e:Ent),(cW ops.toList tb)[i]? = some e→e.full=true→i+1=(cW ops.toList tb).length:=fun i e hi hf=>by
  have hlt:i<ops.size:=by rw[←hzl];exact(l5.1 hi).1
  have h2:=cL hi
  rw[hzl]
  exact((hchk i e hlt (by simpa using h2.1) h2.2).2.2.2.2.2.2 hf).1
 obtain⟨t,t0,t1,t2,t3⟩:=qR _ _ h hfull
 let dst:Nat→Option Nat:=fun i=>(ops[i]?).bind (·.dst)
 let ef:Nat→List Nat:=fun i=>((tb[i]?).map (·.2.2.1)).getD []
 -- how the trace goes
 have tf:∀(i:Nat) (e:Ent),i<ops.size→(cW ops.toList tb)[i]? = some e→e.full=false→∀d,dst i≠some d→(t (i+1)).f d=(t i).f d:=fun i e hi he hf d hd=>by
  obtain⟨v,m,_,h2⟩:=t1 i e he hf
  rw[h2]
  have h3:ops[i]? = some e.o:=by simpa using(cL he).1
  simp only[dst,h3,C7] at hd
  simp only[eA]
  cases hq:e.o.dst with
  |none=>rfl
  |some d'=>simp only[ly,upd];rw[if_neg (fun e'=>hd (by rw[hq,e']))]
 have tm:∀(i:Nat) (e:Ent),i<ops.size→(cW ops.toList tb)[i]? = some e→e.full=false→∀id,(∀a∈ef i,ids.getD a 0≠id)→(t (i+1)).gen id=(t i).gen id∧(t (i+1)).obj id=(t i).obj id:=fun i e hi he hf id hd=>by
  obtain⟨v,m,_,h2⟩:=t1 i e he hf
  rw[h2]
  have h3:=(cL he).2
  simp only[ef,h3,w7,x6] at hd
  simp only[eA]
  exact⟨cJ hd,cJ hd⟩
 -- how many are walked by themselves
 obtain⟨N,hN,hNf,hNl⟩:∃N,N≤ops.size∧(∀(i:Nat) (e:Ent),i<N→(cW ops.toList tb)[i]? = some e→e.full=false)∧(N=ops.size∨(N+1=ops.size∧∃e,(cW ops.toList tb)[N]? = some e∧e.full=true)):=by
  by_cases hlast:∃(i:Nat) (e:Ent),(cW ops.toList tb)[i]? = some e∧e.full=true
  ·obtain⟨i,e,he,hf⟩:=hlast
   have h1:=hfull i e he hf
   rw[hzl] at h1
   refine⟨i,a7,fun j e' hj hj'=>?_,.inr ⟨h1,e,he,hf⟩⟩
   cases hq:e'.full with
   |false=>rfl
   |true=>have:=hfull j e' hj' hq;rw[hzl] at this;omega
  ·refine⟨ops.size,l4 _,fun j e' hj hj'=>?_,.inl rfl⟩
   cases hq:e'.full with
   |false=>rfl
   |true=>exact absurd ⟨j,e',hj',hq⟩ hlast
 have tfs:∀(d k i:Nat),i≤k→k≤N→(∀j,i≤j→j<k→dst j≠some d)→(t k).f d=(t i).f d:=by
  intro d k
  induction k with
  |zero=>intro i hi _ _;rw[show i=0 by omega]
  |succ k ih=>
    intro i hi hk hd
    by_cases hik:i=k+1
    ·subst hik;rfl
    ·obtain⟨e,he,_,_⟩:=hent k a7
     rw[tf k e a7 he (hNf k e a7 he) d (hd k a7 a7)]
     exact ih i a7 a7 (fun j h1 h2=>hd j h1 a7)
 have tms:∀(id k i:Nat),i≤k→k≤N→(∀j,i≤j→j<k→∀a∈ef j,ids.getD a 0≠id)→(t k).gen id=(t i).gen id∧(t k).obj id=(t i).obj id:=by
  intro id k
  induction k with
  |zero=>intro i hi _ _;rw[show i=0 by omega];exact⟨rfl,rfl⟩
  |succ k ih=>
    intro i hi hk hd
    by_cases hik:i=k+1
    ·subst hik;exact⟨rfl,rfl⟩
    ·obtain⟨e,he,_,_⟩:=hent k a7
     obtain⟨m1,m2⟩:=tm k e a7 he (hNf k e a7 he) id (hd k a7 a7)
     rw[m1,m2]
     exact ih i a7 a7 (fun j h1 h2=>hd j h1 a7)
 have hdist:∀(i j d:Nat),i<ops.size→j<ops.size→dst i=some d→dst j=some d→i=j:=fun i j d hi hj h1 h2=>by
  rcases J7 i j with hij|hij
  ·exfalso
   obtain⟨e,he,ho,htb⟩:=hent i hi
   obtain⟨e',he',ho',htb'⟩:=hent j hj
   simp only[dst,ho,ho',C7] at h1 h2
   rcases(hchk i e hi ho htb).2.1 j e'.o hj a7 ho' with h|h
   ·rw[h] at h2;cases h2
   ·exact h (by rw[h1,h2])
  ·rcases J7 j i with hji|hji
   ·exfalso
    obtain⟨e,he,ho,htb⟩:=hent i hi
    obtain⟨e',he',ho',htb'⟩:=hent j hj
    simp only[dst,ho,ho',C7] at h1 h2
    rcases(hchk i e hi ho htb).2.1 j e'.o hj a7 ho' with h|h
    ·rw[h] at h2;cases h2
    ·exact h (by rw[h1,h2])
   ·omega
 -- where all have come up,it is the text's state
 have hsame:∀(k:Nat) (L:Nat→Bool) (s':St),k=N→(∀i,i<k→L i=true)→zL N dst ef ids t L s'→s'=t k:=by
  rintro k L ⟨f',g',o'⟩ rfl hL hI
  have h1:f'=(t k).f:=by
   funext d
   by_cases hd:∃i,i<k∧dst i=some d
   ·obtain⟨i,hi,hd⟩:=hd
    rw[show f' d=_ from hI.f i d hi hd (hL i hi)]
    exact(tfs d k (i+1) a7 (l4 _) (fun j h1 h2 h3=>by have:=hdist i j d a7 a7 hd h3;omega)).symm
   ·have h0:∀i,i<k→dst i≠some d:=fun i hi h=>hd ⟨i,hi,h⟩
    rw[show f' d=_ from hI.f0 d h0]
    exact(tfs d k 0 a7 (l4 _) (fun j _ h2=>h0 j h2)).symm
  have h2:g'=(t k).gen:=funext fun id=>(hI.m id k (l4 _) (fun j a hj _ _=>⟨fun _=>hj,fun _=>hL j hj⟩)).1
  have h3:o'=(t k).obj:=funext fun id=>(hI.m id k (l4 _) (fun j a hj _ _=>⟨fun _=>hj,fun _=>hL j hj⟩)).2
  rw[h1,h2,h3]
 refine⟨hbk,fun L s'=>((N<ops.size→L N=true→z→Q .normal s')∧((N<ops.size→L N=false)→zL N dst ef ids t L s'))∧∀(i:Nat) (o:Oper),L i=true→ops[i]? = some o→fal o=true→z,?_,?_,?_⟩
 ·refine⟨⟨fun _ h=>(by cases h),fun _=>⟨fun i d _ _ h=>(by cases h),fun d _=>by rw[t0],fun id k hk hc=>?_⟩⟩,fun _ _ h=>(by cases h)⟩
  have:=tms id k 0 a7 hk (fun j _ hj a ha e=>by have:=(hc j a a7 ha e).2 hj;cases this)
  rw[this.1,this.2,t0]
  exact⟨rfl,rfl⟩
 ·intro L s' i o hI ho hL hdep hid
  have hi:=(A1.1 ho).1
  obtain⟨e,he,ho',htb⟩:=hent i hi
  obtain rfl:o=e.o:=by rw[ho] at ho';cases ho';rfl
  have hcls:=dn hcl hid i e.o ho hdep
  have hck:=hchk i e hi ho htb
  by_cases hiN:i<N
  ·have hLN:N<ops.size→L N=false:=fun hlt=>by
    cases hq:L N with
    |false=>rfl
    |true=>
      exfalso
      rcases hNl with h|⟨h,e2,he2,hf2⟩
      ·omega
      ·have hz:=cL he2
       have ho2:ops[N]? = some e2.o:=by simpa using hz.1
       have:=(hchk N e2 hlt ho2 hz.2).2.2.2.2.2.2 hf2
       have h3:=dn hcl hid N e2.o ho2 (fun e' he' hb'=>hid N _ hq ho2 e' he' hb') i (this.2 i hiN)
       rw[hL] at h3
       exact absurd h3.1 a8
   have hD:=hI.1.2 hLN
   obtain⟨v,m,⟨hml,hst,hgd⟩,hn⟩:=t1 i e he (hNf i e hiN he)
   have hr1:∀r∈e.rd,s'.f r=(t i).f r:=fun r hr=>by
    by_cases hd:∃j,j<N∧dst j=some r
    ·obtain⟨j,hj,hd⟩:=hd
     obtain⟨e2,he2,ho2,htb2⟩:=hent j a7
     have hd2:e2.o.dst=some r:=by simpa[dst,ho2] using hd
     obtain⟨hLj,hji⟩:=hcls j (hck.1 r hr j e2.o a7 ho2 hd2 (by rw[htb2];exact hNf j e2 hj he2))
     rw[hD.f j r hj hd hLj]
     exact(tfs r i (j+1) a7 a7 (fun k h1 h2 h3=>by have:=hdist j k r a7 a7 hd h3;omega)).symm
    ·have h0:∀j,j<N→dst j≠some r:=fun j hj h=>hd ⟨j,hj,h⟩
     rw[hD.f0 r h0]
     exact(tfs r i 0 a7 a7 (fun j _ h2=>h0 j a7)).symm
   have r1:maskf e.rd (t i).f s'.f=s'.f:=mY hr1
   have hvis:∀id,(∀a∈e.hd,ids.getD a 0≠id)→s'.gen id=(t i).gen id∧s'.obj id=(t i).obj id:=fun id hv=>by
    refine hD.m id i a7 (fun j a hj ha hai=>?_)
    obtain⟨e2,he2,ho2,htb2⟩:=hent j a7
    have ha2:a∈e2.ef:=by simpa[ef,htb2] using ha
    have halt:a<ids.length:=(hchk j e2 a7 ho2 htb2).2.2.2.2.1 a ha2
    rcases hck.2.2.1 a halt (fun h=>hv a h hai) j _ a7 htb2 ha2 with h|h|h
    ·have:=hcls j h
     exact⟨fun _=>this.2,fun _=>this.1⟩
    ·constructor
     ·intro hLj
      have:=dn hcl hid j e2.o ho2 (fun e' he' hb'=>hid j _ hLj ho2 e' he' hb') i h
      rw[hL] at this
      exact absurd this.1 a8
     ·intro hji
      exfalso
      have h1:=s7.1 hcl j (z8.2 a7)
      have h2:=s7.1 h1 i (by simpa[eJ] using h)
      simp only[l9,A5] at h2
      omega
    ·subst h
     rw[hL]
     exact⟨fun h=>(by cases h),fun h=>a7⟩
   have r2:maskm ids e.hd (t i).gen s'.gen=s'.gen:=gU fun id hv=>(hvis id hv).1
   have r3:maskm ids e.hd (t i).obj s'.obj=s'.obj:=gU fun id hv=>(hvis id hv).2
   have h1:=hst s'.f s'.gen s'.obj
   rw[r1,r2,r3] at h1
   refine⟨hgd.ok hr1,h1 _ fun hz=>⟨?_,fun j o2 hLj hoj hfj=>by
    simp only[upd] at hLj
    by_cases hji:j=i
    ·subst hji
     rw[ho] at hoj
     cases hoj
     exact hz hfj
    ·rw[if_neg hji] at hLj
     exact hI.2 j o2 hLj hoj hfj⟩⟩
   refine⟨fun hlt h=>?_,fun _=>⟨fun j d hj hd hLj=>?_,fun d hd=>?_,fun id k hk hc=>?_⟩⟩
   ·simp only[upd] at h
    rw[if_neg a7,hLN hlt] at h
    cases h
   ·simp only[upd] at hLj
    by_cases hji:j=i
    ·subst hji
     have hd2:e.o.dst=some d:=by simpa[dst,ho] using hd
     rw[hn]
     simp only[eA,hd2,ly,upd,A4]
    ·rw[if_neg hji] at hLj
     have hne:e.o.dst≠some d:=fun h=>hji (hdist j i d a7 hi hd (by simpa[dst,ho] using h))
     rw[←hD.f j d hj hd hLj]
     simp only[eA]
     cases hq:e.o.dst with
     |none=>rfl
     |some d'=>simp only[ly,upd];rw[if_neg (fun e'=>hne (by rw[hq,e']))]
   ·rw[←hD.f0 d hd]
    have hne:e.o.dst≠some d:=fun h=>hd i hiN (by simpa[dst,ho] using h)
    simp only[eA]
    cases hq:e.o.dst with
    |none=>rfl
    |some d'=>simp only[ly,upd];rw[if_neg (fun e'=>hne (by rw[hq,e']))]
   ·have hef:ef i=e.ef:=by simp[ef,htb]
    by_cases hmine:∃a∈e.ef,ids.getD a 0=id
    ·obtain⟨a,ha,hai⟩:=hmine
     have hik:i<k:=(hc i a hiN (by rw[hef];exact ha) hai).1 (by simp[upd])
     have halt:=hck.2.2.2.2.1 a ha
     have:=tms id k (i+1) a7 hk (fun j h1 h2 b hb hbi=>by
      obtain⟨e2,he2,ho2,htb2⟩:=hent j a7
      have hb2:b∈e2.ef:=by simpa[ef,htb2] using hb
      have hblt:=(hchk j e2 a7 ho2 htb2).2.2.2.2.1 b hb2
      obtain rfl:a=b:=hinj a b halt hblt (by rw[hai,hbi])
      have hLj:L j=true:=by
       have:=(hc j a a7 hb hbi).2 h2
       simp only[upd] at this
       rwa [if_neg a7] at this
      rcases hck.2.2.2.2.2.1 a ha j _ a7 htb2 hb2 with h|h|h
      ·have:=(hcls j h).2;omega
      ·have:=dn hcl hid j e2.o ho2 (fun e' he' hb'=>hid j _ hLj ho2 e' he' hb') i h
       rw[hL] at this
       exact absurd this.1 a8
      ·omega)
     rw[this.1,this.2,hn]
     simp only[eA]
     exact⟨iZ (by simpa using hml) ⟨a,ha,hai⟩,iZ (by simpa using hml) ⟨a,ha,hai⟩⟩
    ·have hno:∀a∈e.ef,ids.getD a 0≠id:=fun a ha h=>hmine ⟨a,ha,h⟩
     simp only[eA]
     rw[cJ hno,cJ hno]
     refine hD.m id k hk (fun j a hj ha hai=>?_)
     have hji:j≠i:=fun h=>by subst h;rw[hef] at ha;exact hno a ha hai
     have:=hc j a hj ha hai
     simp only[upd] at this
     rwa [if_neg hji] at this
  ·have hiN':i=N:=by
    rcases hNl with h|⟨h,_⟩ <;> omega
   subst hiN'
   rcases hNl with h|⟨h,e2,he2,hf2⟩
   ·omega
   ·obtain rfl:e=e2:=by rw[he] at he2;cases he2;rfl
    have hD:=hI.1.2 (fun _=>hL)
    have hall2:∀j,j<i→L j=true:=fun j hj=>(hcls j ((hck.2.2.2.2.2.2 hf2).2 j hj)).1
    rw[hsame i L s' rfl hall2 hD]
    obtain⟨hla,hgd⟩:=t2 i e he hf2
    refine⟨hgd.ok fun _ _=>rfl,hla.2 _ (fun s'' hs=>?_)⟩
    refine⟨⟨fun _ _=>hs,fun hh=>by have:=hh hi;simp[upd] at this⟩,fun j o2 hLj hoj hfj=>?_⟩
    simp only[upd] at hLj
    by_cases hji:j=i
    ·subst hji
     rw[ho] at hoj
     cases hoj
     rw[hla.1] at hfj
     cases hfj
    ·rw[if_neg hji] at hLj
     exact hI.2 j o2 hLj hoj hfj
 ·intro L s' hI hL ⟨i0,o0,hi0,hf0⟩
  have hz:z:=hI.2 i0 o0 (hL i0 (A1.1 hi0).1) hi0 hf0
  rcases hNl with h|⟨h,_⟩
  ·subst h
   have hD:=hI.1.2 (fun h=>absurd h a7)
   have h1:=t3 (fun i e he=>hNf i e (by rw[←hzl];exact(l5.1 he).1) he)
   rw[hzl] at h1
   rw[hsame _ L s' rfl hL hD]
   exact h1 hz
  ·exact hI.1.1 a7 (hL N a7) hz
end
section
variable {P:Program}{T:Nat→TI}{b₀:Bs}{w:World}{rd:Option Nat}{Φ:St→Loc→List Deferred→World→Prop}{Ψ:fF}
def MM (ops:Array Oper):Bool:=ops.toList.any fal
theorem jc (z:Prop) (hT:aF P T) (hm:P.follows .mixedOrders=true) (hΦ:aE b₀ Φ) {B id:Nat}{s:St}{q:Box Q} (ids:List Nat) (tb:List (List Nat×List Nat×List Nat×Bool)) (nid:Nat) (hnd0:ops.toList.all aA=true) (hok:(oK ops tb nid&&MM ops)=true) (hnid:ids.length=nid) (hnd:ids.Nodup)
  (h:eX (spF P rd b₀ Φ B Ψ) T ops ids z (cW ops.toList tb) s (bx fun s'=>z→Q .normal s')):iL (spF P rd b₀ Φ B Ψ) T id ops s q:=by
 rw[l9] at hok
 obtain⟨h1,I,h2,h3,h4⟩:=BJ (Q:=Q) ids tb nid hok.1 hnid hnd h
 refine sV hT hm hΦ hnd0 h1 I h2 h3 (fun L s' h5 h6=>h4 L s' h5 h6 ?_)
 obtain⟨o,ho,hf⟩:=M6.1 hok.2
 obtain⟨i,hi⟩:=C2 ho
 exact⟨i,o,by simpa using hi,hf⟩
end
section steps
variable {S:Sp}{T:Nat→TI}{ops:Array Oper}{ids:List Nat}{z:Prop}{f:Nat→AV}{g:Nat→Nat}{ob:Nat→Option (List C)}{K:St→Prop}{k:Box K}{op:Op}{ty:TypeId}{ps:String}{af:Array Edge}{gd:Option (Nat×Bool)}{rd hd:List Nat}{r:List Ent}{d:Nat}
theorem bq (hf:fal ⟨some d,op,ty,ps,af,gd⟩=false) (hg:GdE ops ⟨⟨some d,op,ty,ps,af,gd⟩,rd,hd,[],false⟩ ⟨f,g,ob⟩) (h1:∀(fa:Nat→AV) (ga:Nat→Nat) (oa:Nat→Option (List C)) (K':St→Prop),K' ⟨upd (maskf rd f fa) d v,maskm ids hd g ga,maskm ids hd ob oa⟩→opA S T ⟨some d,op,ty,ps,af,gd⟩ ⟨maskf rd f fa,maskm ids hd g ga,maskm ids hd ob oa⟩ (bx K'))
  (h2:eX S T ops ids z r ⟨upd f d v,g,ob⟩ k):eX S T ops ids z (⟨⟨some d,op,ty,ps,af,gd⟩,rd,hd,[],false⟩::r) ⟨f,g,ob⟩ k:=by
 unfold eX
 exact⟨v,[],⟨rfl,fun fa ga oa K' hK=>h1 fa ga oa K' (hK fun h=>by rw[hf] at h;cases h),hg⟩,h2⟩
theorem iy{a x:Nat} (hf:fal ⟨some d,op,ty,ps,af,gd⟩=false) (hg:GdE ops ⟨⟨some d,op,ty,ps,af,gd⟩,rd,hd,[a],false⟩ ⟨f,g,ob⟩) (h1:∀(fa:Nat→AV) (ga:Nat→Nat) (oa:Nat→Option (List C)) (K':St→Prop),K' ⟨upd (maskf rd f fa) d v,upd (maskm ids hd g ga) (ids.getD a 0) x,upd (maskm ids hd ob oa) (ids.getD a 0) y⟩→opA S T ⟨some d,op,ty,ps,af,gd⟩ ⟨maskf rd f fa,maskm ids hd g ga,maskm ids hd ob oa⟩ (bx K'))
  (h2:eX S T ops ids z r ⟨upd f d v,upd g (ids.getD a 0) x,upd ob (ids.getD a 0) y⟩ k):eX S T ops ids z (⟨⟨some d,op,ty,ps,af,gd⟩,rd,hd,[a],false⟩::r) ⟨f,g,ob⟩ k:=by
 unfold eX
 exact⟨v,[(x,y)],⟨rfl,fun fa ga oa K' hK=>h1 fa ga oa K' (hK fun h=>by rw[hf] at h;cases h),hg⟩,h2⟩
theorem jd{a:Nat} (hg:GdE ops ⟨⟨some d,op,ty,ps,af,gd⟩,rd,hd,[a],false⟩ ⟨f,g,ob⟩) (hv:ids.getD a 0∉hd.map (fun b=>ids.getD b 0)) (h1:∀(fa:Nat→AV) (ga:Nat→Nat) (oa:Nat→Option (List C)) (K':St→Prop),(z→K' ⟨upd (maskf rd f fa) d v,maskm ids hd g ga,upd (maskm ids hd ob oa) (ids.getD a 0) y⟩)→opA S T ⟨some d,op,ty,ps,af,gd⟩ ⟨maskf rd f fa,maskm ids hd g ga,maskm ids hd ob oa⟩ (bx K'))
  (h2:eX S T ops ids z r ⟨upd f d v,g,upd ob (ids.getD a 0) y⟩ k):eX S T ops ids z (⟨⟨some d,op,ty,ps,af,gd⟩,rd,hd,[a],false⟩::r) ⟨f,g,ob⟩ k:=by
 have hself:∀(α:Type) (h:Nat→α) (i:Nat),upd h i (h i)=h:=fun α h i=>by funext j;simp only[upd];split <;> simp_all
 have hmask:∀ga:Nat→Nat,maskm ids hd g ga (ids.getD a 0)=g (ids.getD a 0):=fun ga=>by
  clear h1 h2 hg
  induction hd with
  |nil=>rfl
  |cons b bs ih=>
    simp only[l7,x8,not_or] at hv
    simp only[maskm,upd]
    rw[if_neg hv.1]
    exact ih hv.2
 unfold eX
 refine⟨v,[(g (ids.getD a 0),y)],⟨rfl,fun fa ga oa K' hK=>h1 fa ga oa K' (fun hz=>?_),hg⟩,?_⟩
 ·have e:eA ids ⟨⟨some d,op,ty,ps,af,gd⟩,rd,hd,[a],false⟩ v [(g (ids.getD a 0),y)] ⟨maskf rd f fa,maskm ids hd g ga,maskm ids hd ob oa⟩=⟨upd (maskf rd f fa) d v,maskm ids hd g ga,upd (maskm ids hd ob oa) (ids.getD a 0) y⟩:=by
   simp only[eA,ly,setm,l7,v7]
   rw[←hmask ga,hself]
  rw[←e];exact hK fun _=>hz
 ·have e:eA ids ⟨⟨some d,op,ty,ps,af,gd⟩,rd,hd,[a],false⟩ v [(g (ids.getD a 0),y)] ⟨f,g,ob⟩=⟨upd f d v,g,upd ob (ids.getD a 0) y⟩:=by
   simp only[eA,ly,setm,l7,v7]
   rw[hself]
  rw[e];exact h2
theorem je {o:Oper}{ef:List Nat} (hf:fal o=false) (hg:GdE ops ⟨o,rd,hd,ef,true⟩ ⟨f,g,ob⟩) (h:∀K':St→Prop,(∀s'',K s''→K' s'')→opA S T o ⟨f,g,ob⟩ (bx K')):eX S T ops ids z [⟨o,rd,hd,ef,true⟩] ⟨f,g,ob⟩ k:=by
 unfold eX;exact⟨⟨hf,h⟩,hg⟩
end steps
end
end
end Go.Am
namespace Go.Src
section
open Go.Asm (Str)
section
inductive PR (α:Type) where
 |ok (a:α) (n:Nat)
 |no (n:Nat)
def PR.bind {α β:Type} (x:PR α) (f:α→Nat→PR β):PR β:=match x with|.ok a n=>f a n|.no n=>.no n
variable {n:Nat}{α β:Type}{f:α→Nat→PR β}{p:PR α}
@[simp] theorem PR.bind_ok{a:α}:(PR.ok a n).bind f=f a n:=rfl
@[simp] theorem PR.bind_no:(PR.no n:PR α).bind f=.no n:=rfl
section
variable (ts:List Tok)
def cV (n:Nat):Nat:=match ts[n]? with|some t=>t.kind|none=>0
def az (n:Nat):Str:=match ts[n]? with|some t=>if t.kind=3∨t.kind=4 then t.text else []|none=>[]
def takeN (k:Nat) (n:Nat):PR Tok:=match ts[n]? with|some t=>if t.kind=k then .ok t (n+1) else .no n|none=>.no n
def br:List Str→Nat→PR Unit
 |[],n=>.ok () n
 |s::l,n=>if az ts n=s then br l (n+1) else .no n
mutual
def cj:Nat→Nat→Nat→PR Ex
 |0,_,n=>.no n
 |k+1,least,n=>(eu k n).bind fun left n=>fU k least left n
def fU:Nat→Nat→Ex→Nat→PR Ex
 |0,_,_,n=>.no n
 |k+1,least,left,n=>
   if (tO (az ts n)).2.2<least then .ok left n
   else(cj k ((tO (az ts n)).2.2+1) (n+1)).bind fun right m=>fU k least (.mk (tO (az ts n)).1 (tO (az ts n)).2.1 0 [] [left,right]) m
def eu:Nat→Nat→PR Ex
 |0,n=>.no n
 |k+1,n=>
   if cV ts n=2 then(takeN ts 2 n).bind fun t n=>.ok (.mk 1 0 t.num [] []) n
   else if az ts n=[103,101,116] then(br ts [jH,ig] (n+1)).bind fun _ n=>.ok (.mk 5 0 0 [] []) n
   else if az ts n=jH then(cj k 1 (n+1)).bind fun e n=>(br ts [ig] n).bind fun _ n=>.ok e n
   else if az ts n=[33] then(eu k (n+1)).bind fun e n=>.ok (.mk 7 0 0 [] [e]) n
   else(takeN ts 1 n).bind fun t n=>
    if az ts n=[91] then(cj k 1 (n+1)).bind fun e n=>(br ts [[93]] n).bind fun _ n=>.ok (.mk 3 0 0 t.text [e]) n
    else if az ts n=jH then(eU k (n+1)).bind fun l n=>.ok (.mk 4 0 0 t.text l) n
    else .ok (.mk 2 0 0 t.text []) n
def eU:Nat→Nat→PR (List Ex)
 |0,n=>.no n
 |k+1,n=>
   if az ts n=ig then .ok [] (n+1)
   else(cj k 1 n).bind fun e n=>fV k [e] n
def fV:Nat→List Ex→Nat→PR (List Ex)
 |0,_,n=>.no n
 |k+1,l,n=>
   if az ts n=uZ then(cj k 1 (n+1)).bind fun e n=>fV k (l++[e]) n
   else(br ts [ig] n).bind fun _ n=>.ok l n
end
def iE (k n:Nat):PR (List Ex):=(br ts [jH] n).bind fun _ n=>(cj ts k 1 n).bind fun e n=>(br ts [ig] n).bind fun _ n=>.ok [e] n
def ij (k n:Nat):PR Stm:=
 (takeN ts 1 n).bind fun t n=>
   (if az ts n=[61] then(cj ts k 1 (n+1)).bind fun e n=>.ok (Stm.mk 1 t.text [e] [] []) n
    else if az ts n=[91] then(cj ts k 1 (n+1)).bind fun i n=>(br ts [[93],[61]] n).bind fun _ n=>(cj ts k 1 n).bind fun e n=>.ok (Stm.mk 2 t.text [i,e] [] []) n
    else if az ts n=jH then(eU ts k (n+1)).bind fun l n=>.ok (Stm.mk 6 t.text l [] []) n
    else .no n).bind fun s n=>(br ts [jI] n).bind fun _ n=>.ok s n
mutual
def iS:Nat→Nat→PR Stm
 |0,n=>.no n
 |k+1,n=>
   if az ts n=[112,117,116] then(iE ts k (n+1)).bind fun e n=>(br ts [jI] n).bind fun _ n=>.ok (.mk 3 [] e [] []) n
   else if az ts n=[114,101,116,117,114,110] then
    (if az ts (n+1)=jI then .ok (.mk 7 [] [] [] []) (n+2)
     else(cj ts k 1 (n+1)).bind fun e n=>(br ts [jI] n).bind fun _ n=>.ok (.mk 7 [] [e] [] []) n)
   else if az ts n=[105,102] then
    (iE ts k (n+1)).bind fun e n=>(gN k n).bind fun th n=>
      if az ts n=[101,108,115,101] then(gN k (n+1)).bind fun el n=>.ok (.mk 4 [] e th el) n
      else .ok (.mk 4 [] e th []) n
   else if az ts n=[119,104,105,108,101] then
    (iE ts k (n+1)).bind fun e n=>(gN k n).bind fun th n=>.ok (.mk 5 [] e th []) n
   else ij ts k n
def gN:Nat→Nat→PR (List Stm)
 |0,n=>.no n
 |k+1,n=>(br ts [[123]] n).bind fun _ n=>ct k [] n
def ct:Nat→List Stm→Nat→PR (List Stm)
 |0,_,n=>.no n
 |k+1,l,n=>
   if az ts n=[125] then .ok l (n+1)
   else(iS k n).bind fun s n=>ct k (l++[s]) n
end
def dv:Nat→List Str→Nat→PR (List Str)
 |0,_,n=>.no n
 |k+1,l,n=>if az ts n=uZ then(takeN ts 1 (n+1)).bind fun t n=>dv k (l++[t.text]) n else .ok l n
def dD (k n:Nat):PR (List Str):=(takeN ts 1 n).bind fun t n=>dv ts k [t.text] n
def cP:Nat→List Str→Nat→PR (List Str)
 |0,_,n=>.no n
 |k+1,l,n=>if az ts n=[118,97,114] then(dD ts k (n+1)).bind fun m n=>(br ts [jI] n).bind fun _ n=>cP k (l++m) n else .ok l n
def lm (k n:Nat):PR Fn:=
 (br ts [[102,117,110,99]] n).bind fun _ n=>(takeN ts 1 n).bind fun t n=>(br ts [jH] n).bind fun _ n=>
   (if cV ts n=1 then dD ts k n else .ok [] n).bind fun ps n=>(br ts [ig] n).bind fun _ n=>
     (br ts [[123]] (if az ts n=[119,111,114,100] then n+1 else n)).bind fun _ m=>(cP ts k [] m).bind fun ls m=>
       (ct ts k [] m).bind fun b m=>.ok ⟨t.text,ps,ls,decide (az ts n=[119,111,114,100]),b⟩ m
def kY:Nat→List Str→List (Str×Int)→Nat→PR (List Str×List (Str×Int))
 |0,_,_,n=>.no n
 |k+1,vs,ars,n=>
   if az ts n=[118,97,114] then(dD ts k (n+1)).bind fun m n=>(br ts [jI] n).bind fun _ n=>kY k (vs++m) ars n
   else if az ts n=[97,114,114,97,121] then
    (takeN ts 1 (n+1)).bind fun t n=>(br ts [[91]] n).bind fun _ n=>(takeN ts 2 n).bind fun z n=>(br ts [[93]] n).bind fun _ n=>(br ts [jI] n).bind fun _ n=>kY k vs (ars++[(t.text,(z.num:Int))]) n
   else .ok (vs,ars) n
def kZ:Nat→List Fn→Nat→PR (List Fn)
 |0,_,n=>.no n
 |k+1,l,n=>if n<ts.length then(lm ts k n).bind fun f n=>kZ k (l++[f]) n else .ok l n
def lf (k n:Nat):PR Prog:=
 (kY ts k [] [] n).bind fun h n=>(lm ts k n).bind fun f n=>(kZ ts k [f] n).bind fun fs n=>.ok ⟨h.1,h.2,fs⟩ n
end
def PR.Fwd {α:Type} (n:Nat) (p:PR α):Prop:=∀a m,p=.ok a m→n<m
def PR.FwdE {α:Type} (n:Nat) (p:PR α):Prop:=∀a m,p=.ok a m→n≤m
theorem PR.bind_fwd (h:p.Fwd n) (h':∀a m,(f a m).FwdE m):(p.bind f).Fwd n:=by
 intro b m hb
 cases p with
 |ok a k=>exact F0 (h a k rfl) (h' a k b m hb)
 |no k=>cases hb
theorem PR.bind_fwdE (h:p.FwdE n) (h':∀a m,(f a m).FwdE m):(p.bind f).FwdE n:=by
 intro b m hb
 cases p with
 |ok a k=>exact A9 (h a k rfl) (h' a k b m hb)
 |no k=>cases hb
theorem PR.Fwd.le {α:Type}{p:PR α} (h:p.Fwd n):p.FwdE n:=fun a m e=>RG (h a m e)
theorem PR.Fwd.of_succ {α:Type}{p:PR α} (h:p.FwdE (n+1)):p.Fwd n:=fun a m e=>h a m e
theorem PR.fwdE_ok {α:Type}{n m:Nat}{a:α} (h:n≤m):(PR.ok a m).FwdE n:=fun b k e=>by cases e;exact h
theorem PR.fwd_no {α:Type}{n m:Nat}:(PR.no m:PR α).Fwd n:=fun _ _ e=>by cases e
section
variable {ts:List Tok}
theorem eT {k n:Nat}:(takeN ts k n).Fwd n:=by
 intro a m h
 unfold takeN at h
 split at h
 ·split at h
  ·cases h;omega
  ·cases h
 ·cases h
theorem bR:∀{l:List Str}{n:Nat},(br ts l n).FwdE n
 |[],n=>PR.fwdE_ok (l4 _)
 |s::l,n=>by
   unfold br
   split
   ·exact fun a m e=>by have:=bR (l:=l) (n:=n+1) a m e;omega
   ·exact PR.fwd_no.le
mutual
theorem dK:∀(k least n:Nat),(cj ts k least n).Fwd n
 |0,_,_=>by unfold cj;exact PR.fwd_no
 |k+1,least,n=>by
   unfold cj
   exact PR.bind_fwd (tR k n) fun a m=>pt k least a m
theorem pt:∀(k least:Nat) (left:Ex) (n:Nat),(fU ts k least left n).FwdE n
 |0,_,_,_=>by unfold fU;exact PR.fwd_no.le
 |k+1,least,left,n=>by
   unfold fU
   split
   ·exact PR.fwdE_ok (l4 _)
   ·exact fun a m e=>by have:=PR.bind_fwdE (dK k _ (n+1)).le (fun b q=>pt k least _ q) a m e;omega
theorem tR:∀(k n:Nat),(eu ts k n).Fwd n
 |0,_=>by unfold eu;exact PR.fwd_no
 |k+1,n=>by
   unfold eu
   split
   ·exact PR.bind_fwd eT fun a m=>PR.fwdE_ok (l4 _)
   split
   ·exact PR.Fwd.of_succ (PR.bind_fwdE bR fun a m=>PR.fwdE_ok (l4 _))
   split
   ·exact PR.Fwd.of_succ (PR.bind_fwdE (dK k 1 (n+1)).le fun a m=>PR.bind_fwdE bR fun b q=>PR.fwdE_ok (l4 _))
   split
   ·exact PR.Fwd.of_succ (PR.bind_fwdE (tR k (n+1)).le fun a m=>PR.fwdE_ok (l4 _))
   refine PR.bind_fwd eT fun a m=>?_
   split
   ·exact(PR.Fwd.of_succ (PR.bind_fwdE (dK k 1 (m+1)).le fun a m=>PR.bind_fwdE bR fun b q=>PR.fwdE_ok (l4 _))).le
   split
   ·exact(PR.Fwd.of_succ (PR.bind_fwdE (tS k (m+1)).le fun a m=>PR.fwdE_ok (l4 _))).le
   ·exact PR.fwdE_ok (l4 _)
theorem tS:∀(k n:Nat),(eU ts k n).Fwd n
 |0,_=>by unfold eU;exact PR.fwd_no
 |k+1,n=>by
   unfold eU
   split
   ·exact PR.Fwd.of_succ (PR.fwdE_ok (l4 _))
   ·exact PR.bind_fwd (dK k 1 n) fun a m=>tT k [a] m
theorem tT:∀(k:Nat) (l:List Ex) (n:Nat),(fV ts k l n).FwdE n
 |0,_,_=>by unfold fV;exact PR.fwd_no.le
 |k+1,l,n=>by
   unfold fV
   split
   ·exact(PR.Fwd.of_succ (PR.bind_fwdE (dK k 1 (n+1)).le fun a m=>tT k (l++[a]) m)).le
   ·exact PR.bind_fwdE bR fun b q=>PR.fwdE_ok (l4 _)
end
theorem nv {k n:Nat}:(iE ts k n).FwdE n:=PR.bind_fwdE bR fun _ m=>PR.bind_fwdE (dK k 1 m).le fun _ m=>PR.bind_fwdE bR fun _ _=>PR.fwdE_ok (l4 _)
theorem yr {k n:Nat}:(ij ts k n).Fwd n:=by
 unfold ij
 refine PR.bind_fwd eT fun t m=>PR.bind_fwdE ?_ fun s q=>PR.bind_fwdE bR fun _ _=>PR.fwdE_ok (l4 _)
 split
 ·exact(PR.Fwd.of_succ (PR.bind_fwdE (dK k 1 (m+1)).le fun _ _=>PR.fwdE_ok (l4 _))).le
 split
 ·exact(PR.Fwd.of_succ (PR.bind_fwdE (dK k 1 (m+1)).le fun _ _=>PR.bind_fwdE bR fun _ q=>PR.bind_fwdE (dK k 1 q).le fun _ _=>PR.fwdE_ok (l4 _))).le
 split
 ·exact(PR.Fwd.of_succ (PR.bind_fwdE (tS k (m+1)).le fun _ _=>PR.fwdE_ok (l4 _))).le
 ·exact PR.fwd_no.le
mutual
theorem AP:∀(k n:Nat),(iS ts k n).Fwd n
 |0,_=>by unfold iS;exact PR.fwd_no
 |k+1,n=>by
   unfold iS
   split
   ·exact PR.Fwd.of_succ (PR.bind_fwdE nv fun _ _=>PR.bind_fwdE bR fun _ _=>PR.fwdE_ok (l4 _))
   split
   ·split
    ·exact fun a m e=>by cases e;omega
    ·exact PR.Fwd.of_succ (PR.bind_fwdE (dK k 1 (n+1)).le fun _ _=>PR.bind_fwdE bR fun _ _=>PR.fwdE_ok (l4 _))
   split
   ·refine PR.Fwd.of_succ (PR.bind_fwdE nv fun _ m=>PR.bind_fwdE (pu k m) fun _ q=>?_)
    split
    ·exact(PR.Fwd.of_succ (PR.bind_fwdE (pu k (q+1)) fun _ _=>PR.fwdE_ok (l4 _))).le
    ·exact PR.fwdE_ok (l4 _)
   split
   ·exact PR.Fwd.of_succ (PR.bind_fwdE nv fun _ m=>PR.bind_fwdE (pu k m) fun _ _=>PR.fwdE_ok (l4 _))
   ·exact yr
theorem pu:∀(k n:Nat),(gN ts k n).FwdE n
 |0,_=>by unfold gN;exact PR.fwd_no.le
 |k+1,n=>by
   unfold gN
   exact PR.bind_fwdE bR fun _ m=>(nw k [] m).le
theorem nw:∀(k:Nat) (l:List Stm) (n:Nat),(ct ts k l n).Fwd n
 |0,_,_=>by unfold ct;exact PR.fwd_no
 |k+1,l,n=>by
   unfold ct
   split
   ·exact PR.Fwd.of_succ (PR.fwdE_ok (l4 _))
   ·exact PR.bind_fwd (AP k n) fun a m=>(nw k _ m).le
end
theorem og:∀{k:Nat}{l:List Str}{n:Nat},(dv ts k l n).FwdE n
 |0,_,_=>by unfold dv;exact PR.fwd_no.le
 |k+1,l,n=>by
   unfold dv
   split
   ·exact(PR.Fwd.of_succ (PR.bind_fwdE eT.le fun _ _=>og)).le
   ·exact PR.fwdE_ok (l4 _)
theorem rO {k n:Nat}:(dD ts k n).Fwd n:=PR.bind_fwd eT fun _ _=>og
theorem qc:∀{k:Nat}{l:List Str}{n:Nat},(cP ts k l n).FwdE n
 |0,_,_=>by unfold cP;exact PR.fwd_no.le
 |k+1,l,n=>by
   unfold cP
   split
   ·exact(PR.Fwd.of_succ (PR.bind_fwdE rO.le fun _ _=>PR.bind_fwdE bR fun _ _=>qc)).le
   ·exact PR.fwdE_ok (l4 _)
theorem OA {k n:Nat}:(lm ts k n).Fwd n:=by
 unfold lm
 intro a m h
 cases hm:br ts [[102,117,110,99]] n with
 |no _=>rw[hm] at h;cases h
 |ok u q=>
   rw[hm] at h
   have h1:=bR (ts:=ts) (l:=[[102,117,110,99]]) (n:=n) u q hm
   have h2:=PR.bind_fwd (p:=takeN ts 1 q) (n:=q) eT (fun t m=>PR.bind_fwdE (β:=Fn) (f:=fun _ n=>
    (if cV ts n=1 then dD ts k n else .ok [] n).bind fun ps n=>(br ts [ig] n).bind fun _ n=>
    (br ts [[123]] (if az ts n=[119,111,114,100] then n+1 else n)).bind fun _ m=>(cP ts k [] m).bind fun ls m=>
      (ct ts k [] m).bind fun b m=>.ok ⟨t.text,ps,ls,decide (az ts n=[119,111,114,100]),b⟩ m) (bR (l:=[jH])) fun _ x=>PR.bind_fwdE (by split;exact rO.le;exact PR.fwdE_ok (l4 _)) fun ps y=>PR.bind_fwdE bR fun _ z=>by
      have h3:∀v,z≤v→((br ts [[123]] v).bind fun _ m=>(cP ts k [] m).bind fun ls m=>(ct ts k [] m).bind fun b m=>(PR.ok (Fn.mk t.text ps ls (decide (az ts z=[119,111,114,100])) b) m)).FwdE z:=fun v hv a m e=>by
       have:=PR.bind_fwdE (p:=br ts [[123]] v) bR (fun _ m=>PR.bind_fwdE (qc (k:=k) (l:=[])) fun ls m=>PR.bind_fwdE (nw k [] m).le fun b m=>PR.fwdE_ok (a:=Fn.mk t.text ps ls (decide (az ts z=[119,111,114,100])) b) (l4 m)) a m e
       omega
      apply h3
      split <;> omega) a m h
   omega
end
end
end
end Go.Src

/- A part of the proof; no conditions. -/
import Derived.Test.YtlacbjnmkhndiaaGreatDoorPart27
set_option linter.unusedSimpArgs false
set_option linter.unusedVariables false
set_option linter.defProp false
open List renaming length -> z
open Option renaming some -> S, none -> N
open Bool renaming true -> T, false -> F
set_option maxHeartbeats 64000000
set_option maxRecDepth 100000
namespace Go.Proofs.YtlacbjnmkhndiaaGreatDoor
section
attribute [local congr] Go.Am.ite_cc
open Go Go.Am Go.Asm Go.Mach
def Wx(l:List Int):D:=.sl (l.map λn=>[.int .i64 n])
def WC.state{cs cf:List C}{code:List Nat}{inp:Str}{m:M}{b A u:C}(h:WC cs code inp m b A u)(hl:z cf=28)(c:∀i,i<22->i≠19->cf[i]?=cs[i]?){o:Str}(ho:cf[19]?=S (.d (.str o))):cf.take 22=stC {m with out:=o} b:=by
 have g:=CY (m:={m with out:=o}) h.rl b;refine M5 λi=>?_;rw[I1];by_cases e:i<22
 .rw[l8 e]
  unfold stC;by_cases f:i=0
  .subst f;exact(c 0 a7 a7).trans h.c0
  by_cases U:i<=16
  .obtain⟨a,rfl⟩:∃a,i=a+1:=⟨i-1,a7⟩
   rw[c (a+1) a7 a7,show a+1=1+a by omega,h.rg a a7];rw[show 1+a=a+1 by omega,F0 (by simp[h.rl];omega),l9,s9,Qv,x8];have:a<z m.reg:=by rw[h.rl];omega
   rw[v8 this];unfold M.r;rw[ES,v8 this];rfl
  .obtain⟨k,rfl⟩:∃k,i=17+k:=⟨i-17,a7⟩
   rw[D4 (by simp[h.rl])];simp only[j6,j9,h.rl];rw[show 17+k-(16+1)=k by omega];obtain rfl|rfl|rfl|rfl|rfl:k=0\/k=1\/k=2\/k=3\/k=4:=a7
   .exact(c 17 a7 a7).trans h.c17
   .exact(c 18 a7 a7).trans h.c18
   .exact ho
   .exact(c 20 a7 a7).trans h.c20
   .exact(c 21 a7 a7).trans h.c21
 .rw[j8 e,E5 a7]
def BF(l:List Nat):List.map C.d (l.map λx=>[D.int .u32 (x:Nat)]).flatten=ji l:=by
 unfold ji
 induction l with
 |nil=>rfl
 |cons a l b=>simp only[l9,E8,C3,A6,b]
def Ii(n:Nat):(List.replicate n [C.d (.int .i64 0)]).flatten=lQ (List.replicate n 0):=by
 unfold lQ
 induction n with
 |zero=>rfl
 |succ n a=>simp only[F6,E8,l9,C3,A6,a]
def Pq(code:List Nat)(d:Nat)(inp:Str)(q:Nat)(hl:z code<=1000000)(H:∀x∈code,x<4294967296)(hd:d<=32768)(Y:q<=500000000000):
  ax Tryz.prog 58 [eZ (code,d),sv inp,stV (Mach.start d),iv .i64 q] (λr=>∃p:List Int,r=.tup [stV (runM okI code inp q (Mach.start d)),.one (.d (Wx p))]):=by
 refine hdR Tryz.func58 rfl [.cell 8 91,.tmp 9] λg=>?_;have hC:=Pw code d hl H;have u:stV (Mach.start d)=.agg [.d (.int .i64 0),.d (.int .u32 0),.d (.int .u32 0),.d (.int .u32 0),.d (.int .u32 0),.d (.int .u32 0),.d (.int .u32 0),.d (.int .u32 0),.d (.int .u32 0),.d (.int .u32 0),.d (.int .u32 0),.d (.int .u32 0),.d (.int .u32 0),.d (.int .u32 0),.d (.int .u32 0),.d (.int .u32 0),.d (.int .u32 0),.d (kM (List.replicate d 0)),.d (.int .i64 0),.d (.str []),.d (.int .i64 0),.d (.int .i64 0)]:=rfl;rw[u];have B:=BF (List.replicate d 0);have U:∀e∈((List.replicate d 0).map λx=>[D.int .u32 ((x:Nat):Int)]),z e=1:=λe he=>by obtain⟨x,_,rfl⟩:=E3.1 he;rfl
 have ad:z ((List.replicate d 0).map λx=>[D.int .u32 ((x:Nat):Int)])=d:=a8;have t:(Mach.start d).mem=List.replicate d 0:=rfl;have P:z (List.replicate d 0)=d:=G0;unfold kM;generalize ((List.replicate d 0).map λx=>[D.int .u32 ((x:Nat):Int)])=W at B U ad|-;have bd:(0:Int)<=(z code:Int):=a7;unfold eZ at hC|-;simp only at hC|-;generalize hI:code.map nY=I at hC;generalize X:(code.map λw=>[D.bool (okW w)])=O at hC;unfold eO at hC|-;simp only[go_sem];refine bJ rfl (by simp only[go_sem];exact hC) ?_;rintro _ rfl;simp only[go_sem];refine fL aA mixed [24,12] [([6],[0,1],[],F),([20],[0,1],[],F),([6],[0,1],[],F),([22],[0,1],[],F),([],[1],[0],F),([6],[0,1],[],F),([25],[0,1],[],F),([24,26],[1],[0],F),([6],[0,1],[],F),([28],[0,1],[],F),([6],[0,1],[],F),([30],[0,1],[],F),([6],[0,1],[],F),([32],[0,1],[],F),([21,23,27,29,31,33],[1],[],F),([],[0],[1],F),([12,34],[],[],T)] 2 c8 rfl b9 ?_;simp only[go_sem]
 iterate 4 (apply aI;· (intro fa ga oa K' J;simp only[go_sem]at J|-;exact J))
 (apply cJ;· (intro fa ga oa K' J;simp only[go_sem,aW]at J|-;exact J))
 iterate 2 (apply aI;· (intro fa ga oa K' J;simp only[go_sem]at J|-;exact J))
 (apply cJ;· (intro fa ga oa K' J;simp only[go_sem,aW]at J|-;exact⟨U,⟨b9,a7⟩,J⟩))
 iterate 7 (apply aI;· (intro fa ga oa K' J;simp only[go_sem]at J|-;exact J))
 (apply cJ;· (intro fa ga oa K' J;simp only[go_sem]at J|-;exact J))
 apply cL;intro K' a';simp only[go_sem];refine a' _ ?_;clear a' K';simp only[go_sem];refine fL aA mixed [38,47,13] [([12],[0,1,2],[],F),([6],[1,2],[],F),([36],[1,2],[],F),([37],[1,2],[0],F),([10],[0,1,2],[],F),([11],[0,1,2],[],F),([4],[0,1,2],[],F),([41],[0,1,2],[],F),([1],[0,1,2],[],F),([4],[0,2],[],F),([44],[0,2],[],F),([45],[0,2],[],F),([46],[0,2],[1],F),([35,38,39,40,42,43,47],[2],[],F),([],[0,1],[2],F),([13,48],[],[],T)] 3 c8 rfl b9 ?_;simp only[go_sem]
 iterate 3 (apply aI;· (intro fa ga oa K' J;simp only[go_sem]at J|-;exact J))
 (apply cJ;· (intro fa ga oa K' J;simp only[go_sem,aW]at J|-;exact J))
 iterate 8 (apply aI;· (intro fa ga oa K' J;simp only[go_sem,j6]at J|-;exact J))
 (apply cJ;· (intro fa ga oa K' J;simp only[go_sem,bd]at J|-;exact⟨l7 _,a7,a7,J⟩))
 (apply aI;· (intro fa ga oa K' J;simp only[go_sem]at J|-;exact J))
 (apply cJ;· (intro fa ga oa K' J;simp only[go_sem]at J|-;exact J))
 apply cL;intro K' a';simp only[go_sem];refine a' _ ?_;clear a' K';simp only[go_sem];refine eF (λn K=>∃(k:Nat)(m:M),n+k=q/\runM okI code inp q (Mach.start d)=runM okI code inp n m/\Mach.Good m/\z m.mem=d/\m.steps<=k/\m.rd<=k/\Wn (nxC 188 (g 13)) code inp m K.gen K.obj/\K.f 3=iv .i64 q/\K.f 14=iv .i64 k/\K.f 13=.one (.ptr 13 (nxC 188 (g 13)) 0)/\K.f 8=.one (.ptr 8 (nxC 92 (g 8)) 0)/\K.gen 8=nxC 92 (g 8)/\∃Z,K.obj 8=S Z/\z Z=22) q ?_ ?_
 .refine⟨0,Mach.start d,rfl,rfl,pZ d,P,L0 _,L0 _,⟨?_,_,24,_,List.replicate (z code) 0,by simp only[upd,B1]<;>rfl,⟨rfl,rfl,rfl,λa ha=>?_,?_,rfl,rfl,rfl,rfl,rfl,?_,?_,rfl,rfl,?_⟩,.inl rfl,?_,?_,G0,?_,?_⟩,?_⟩
  .simp only[upd,B1]
  .obtain rfl|rfl|rfl|rfl|rfl|rfl|rfl|rfl|rfl|rfl|rfl|rfl|rfl|rfl|rfl|rfl:a=0\/a=1\/a=2\/a=3\/a=4\/a=5\/a=6\/a=7\/a=8\/a=9\/a=10\/a=11\/a=12\/a=13\/a=14\/a=15:=a7
   all_goals rfl
  .rw[show z (Mach.start d).mem=z W by rw[t,P,ad]];rfl
  .rw[hI];rfl
  .rw[X];rfl
  .rfl
  .rw[t,<-B];rfl
  .rw[<-Ii];rfl
  .rfl
  .rfl
  .simp only[go_sem]
   exact⟨_,rfl,rfl⟩
 rintro n f g' ob ⟨k,m,hn,bf,v,al,b3,b7,hW,q3,E,c,q8,s,Z,o8,hZ⟩;simp only at hW q3 E c q8 s o8;obtain⟨l,cs,mi,A,p,ho,V,Q,cb,c7,bz,rfl,ar⟩:=id hW;have an:=ac (k:=k) a7;by_cases bk:k<q/\m.fin=0
 .obtain⟨af,hf⟩:=bk
  have G:(k:Int)<(q:Int):=a7;have a6:(m.fin:Int)=0:=a7;simp only[go_sem,q3,E,c,G,l,ho,V.c21,a6];refine ck rfl (by simp only[go_sem,c];exact Pp hW H v a7 hl a7 a7 hf) ?_;rintro r g2 bo ⟨f1,f2⟩;obtain⟨n1,n2,n3⟩:=EJ (okI:=okI) (code:=code) (inp:=inp) m;simp only[go_sem,E,an];refine cH (n-1) a7 ⟨k+1,mV okI code inp m,a7,?_,wD v H,a7,a7,a7,f2,?_⟩
  .rw[bf,show n=(n-1)+1 by omega,EH hf];rfl
  simp only[go_sem,q3,c,q8];have h8:=f1 8 b9 b9 b9 b9 b9 b9;exact⟨h8.1.trans s,Z,h8.2.trans o8,hZ⟩
 .have bl:runM okI code inp q (Mach.start d)=m:=by
   rw[bf];by_cases hf:m.fin=0
   .rw[show n=0 by omega];rfl
   .exact Is hf n
  rw[bl];have bs:(¬(k:Int)<(q:Int))\/((k:Int)<(q:Int)/\¬(m.fin:Int)=0):=a7;have L:u8s (List.take (z m.out) (mE m.out))=S (m.out.map λb=>((b.toNat:Nat):Int)):=by rw[s6 (by simp[mE])];exact oN _
  have b0:=V.len;have cm:z (mE m.out)=z m.out:=by simp[mE]
  have hb:(List.map (λn:Int=>UInt8.ofNat n.toNat) (List.map (λb:UInt8=>((b.toNat:Nat):Int)) m.out))=m.out:=by
   rw[Qv]
   conv=>rhs;rw[<-List.map_id m.out]
   exact Qj λb _=>by simp
  have hL:=V.state (cf:=cs.set 19 (C.d (D.str m.out))) (o:=m.out) (by rw[C2];exact b0) (λi hi av=>au a7) (jJ a7);have cc:(cs.set 19 (C.d (D.str m.out)))[27]?=S (.osl 47 (g' 47) 1 0 (z code)):=(au a7).trans V.c27;have y:=CY (m:={m with out:=m.out}) V.rl (.osl mi (g' mi) 1 0 (z m.mem));have hT:(stC {m with out:=m.out} (.osl mi (g' mi) 1 0 (z m.mem))).take 22=stC {m with out:=m.out} (.osl mi (g' mi) 1 0 (z m.mem)):=s6 a7;rcases bs with G|⟨G,a6⟩
  case' inl=>simp only[go_sem,q3,E,c,G,l,ho,V.c22,ar,L3,D3,L,hb]
  case' inr=>simp only[go_sem,q3,E,c,G,l,ho,V.c21,a6,V.c22,ar,L3,D3,L,hb]
  all_goals
   refine⟨a7,a7,?_⟩;refine fL aA mixed [8] [([13],[],[],F),([66],[],[],F),([13],[0],[],F),([68],[0],[],F),([8,67],[],[0],F),([69],[],[],T)] 1 c8 rfl b9 ?_;simp only[go_sem]
   (apply aI;· (intro fa ga oa K' J;simp only[go_sem,c,l]at J|-;exact J))
   (apply aI;· (intro fa ga oa K' J;simp only[go_sem,l,D3,hL]at J|-;exact⟨by rw[C2];omega,J⟩))
   (apply aI;· (intro fa ga oa K' J;simp only[go_sem,c,l]at J|-;exact J))
   (apply aI;· (intro fa ga oa K' J;simp only[go_sem,l,cc]at J|-;exact J))
   (apply jo;(focus simp);(focus (intro fa ga oa K' J;simp only[go_sem,q8,s,o8,y]at J|-;exact⟨a7,J⟩)))
   apply cL;intro K' a';simp only[go_sem];refine a' _ ?_;clear a' K';rw[oX (by rw[y];exact hZ)];simp only[go_sem,q8,s,hT,y];refine⟨_,⟨_,⟨_,_,rfl,oV (m:=m) ?_ rfl,_,_,rfl,xL ?_,rfl⟩,rfl⟩,p,rfl⟩
   .refine uq rfl ?_ rfl
    rcases Q with rfl|rfl<;>(simp only[upd];(repeat rw[j8 (by decide)]);exact cb)
   .refine qh (cells:=lQ p) (off:=0) rfl ?_ p (λn=>.int .i64 n) (λ_=>rfl) bz (λj a h=>by rw[C7];unfold lQ;rw[x8,h];rfl) (by unfold lQ;rw[j6];omega)
    simp only[upd];(repeat rw[j8 (by decide)]);exact c7
def TN(code:List Nat)(d:Nat)(inp:Str)(q:Nat)(hl:z code<=1000000)(H:∀x∈code,x<4294967296)(hd:d<=32768)(Y:q<=500000000000):
  ax Tryz.prog 35 [eZ (code,d),sv inp,stV (Mach.start d),iv .i64 q] (·=stV (runM okI code inp q (Mach.start d))):=by
 refine hdR Tryz.func35 rfl [.cell 8 91] λg=>?_;have i:=Pq code d inp q hl H hd Y;have a:=uX (okI:=okI) (inp:=inp) H (n:=q) (pZ d);generalize runM okI code inp q (Mach.start d)=M at i a|-;unfold eZ at i|-;have u:stV (Mach.start d)=.agg ((stD (Mach.start d)).map .d):=rfl;have e:List.take 22 (List.map C.d (stD (Mach.start d)))=List.map C.d (stD (Mach.start d)):=s6 (by simp[stD,Mach.start]);rw[u]at i|-;have c:z ((stD M).map C.d)=22:=by simp[stD,a.len]
 have j:((stD M).map C.d).take 22=(stD M).map C.d:=s6 a7;simp only[go_sem,e];refine⟨by simp[stD,Mach.start],?_⟩;refine fD rfl (by simp only[go_sem,e];exact i) (by simp only[go_sem,e];rfl) ?_;rintro _ ⟨p,rfl⟩;unfold stV;simp only[go_sem,c];rw[oX (by rw[c];rfl)];refine⟨a7,?_⟩;simp only[go_sem,j,c];rw[oX (by rw[c];rfl)];refine⟨a7,?_⟩;rw[j];exact⟨_,oV (m:=M) (b:=.d (kM M.mem)) (.d _) (by unfold stD;rw[B5];rfl),rfl⟩
def CZ(code:List Nat)(d:Nat)(inp:Str)(q:Nat)(hl:z code<=1000000)(H:∀x∈code,x<4294967296)(hd:d<=32768)(Y:q<=500000000000):
  ax Tryz.prog 13 [eZ (code,d),sv inp,iv .i64 q] (·=Ly (EI okI code d inp q)):=by
 refine hdR Tryz.func13 rfl [.cell 6 53] λg=>?_;have U:=Im code d hd;have r:=TN code d inp q hl H hd Y;have a:=uX (okI:=okI) (inp:=inp) H (n:=q) (pZ d);unfold EI;generalize runM okI code inp q (Mach.start d)=M at r a|-;unfold eZ at U r|-;have c:z ((stD M).map C.d)=22:=by simp[stD,a.len]
 have s:∀k,k<5->((stD M).map C.d)[17+k]?=([.d (kM M.mem),.d (.int .i64 (M.rd:Nat)),.d (.str M.out),.d (.int .i64 (M.steps:Nat)),.d (.int .i64 (M.fin:Nat))]:List C)[k]?:=λk B=>by
  have A:(stD M).map C.d=((.int .i64 (M.pc:Nat)::M.reg.map λx=>D.int .u32 (x:Nat)):List D).map C.d++[.d (kM M.mem),.d (.int .i64 (M.rd:Nat)),.d (.str M.out),.d (.int .i64 (M.steps:Nat)),.d (.int .i64 (M.fin:Nat))]:=by
   unfold stD;rw[B5];rfl
  rw[A,D4 (by simp[a.len])];simp only[j6,j9,a.len];rw[show 17+k-(16+1)=k by omega]
 have b:((stD M).map C.d)[19]?=S (.d (.str M.out)):=s 2 b9;have e:((stD M).map C.d)[20]?=S (.d (.int .i64 (M.steps:Nat))):=s 3 b9;have f:((stD M).map C.d)[21]?=S (.d (.int .i64 (M.fin:Nat))):=s 4 b9;clear s;unfold stV at r;generalize (stD M).map C.d=L at r c b e f;have E:L.take 22=L:=s6 a7;have i:stV (Mach.start d)=.agg ((stD (Mach.start d)).map .d):=rfl;rw[i]at U;simp only[go_sem];refine fL aA mixed [7] [([3],[0],[],F),([1],[0],[],F),([3],[0],[],F),([10],[0],[],F),([2],[0],[],F),([8,9,11,12],[0],[],F),([],[],[0],F),([7,13],[],[],T)] 1 c8 rfl b9 ?_;simp only[go_sem]
 iterate 3 (apply aI;· (intro t ga u p J;simp only[go_sem]at J|-;exact J))
 refine aI (v:=.agg ((stD (Mach.start d)).map .d)) (λt ga u p J=>?_) ?_
 .simp only[go_sem]at J|-
  refine fD (k:=bx p) rfl (by simp only[go_sem];exact U) VG ?_;exact SF
 (apply aI;· (intro t ga u p J;simp only[go_sem]at J|-;exact J))
 refine aI (v:=.agg L) (λt ga u p J=>?_) ?_
 .simp only[go_sem]at J|-
  refine fD (k:=bx p) rfl (by simp only[go_sem];exact r) VG ?_;exact SF
 (apply cJ;· (intro t ga u p J;simp only[go_sem]at J|-;exact J))
 apply cL;intro p w;simp only[go_sem,c];refine w _ ?_;clear w p;rw[oX (by rw[c];rfl)];have j:=c;by_cases y:M.fin=0
 .have h:(M.fin:Int)=0:=a7
  rw[l8 y];have l:(L.set 21 (C.d (D.int .i64 5)))[21]?=S (C.d (D.int .i64 5)):=jJ a7;have m:(L.set 21 (C.d (D.int .i64 5)))[20]?=S (.d (.int .i64 (M.steps:Nat))):=by rw[au b9];exact e
  have o:(L.set 21 (C.d (D.int .i64 5)))[19]?=S (.d (.str M.out)):=by rw[au b9];exact b
  simp only[go_sem,f,h,l,m,o];exact⟨a7,_,Ib,rfl⟩
 .have h:¬(M.fin:Int)=0:=a7
  rw[j8 y];simp only[go_sem,b,e,f,h];exact⟨_,Ib,rfl⟩
end
end Go.Proofs.YtlacbjnmkhndiaaGreatDoor
namespace Go.Proofs.YtlacbjnmkhndiaaGreatDoor.Low
section
attribute [local congr] Go.Am.ite_cc
open Go Go.Am Go.Asm Go.Mach
def gq(t:Nat)(code:List Nat)(d:Nat):Nat:=8*(t+1)*(z code+d+1)
def F_A(t:Nat)(code:List Nat)(d:Nat)(j:t<=1000)(hl:z code<=1000000)(hd:d<=32768):ax Tryz.prog 14 [iv .i64 t,eZ (code,d)] (·=iv .i64 (gq t code d:Nat)):=by
 refine hdP Tryz.func14 rfl [4] λg=>?_;have U:IntKind.i64.wrap ((t:Int)+1)=((t+1:Nat):Int):=by rw[wrap_i64]<;>omega
 have a:IntKind.i64.wrap (8*((t+1:Nat):Int))=((8*(t+1):Nat):Int):=by rw[wrap_i64]<;>omega
 have b:IntKind.i64.wrap ((z code:Int)+(d:Int))=((z code+d:Nat):Int):=by rw[wrap_i64]<;>omega
 have e:IntKind.i64.wrap (((z code+d:Nat):Int)+1)=((z code+d+1:Nat):Int):=by rw[wrap_i64]<;>omega
 have i:IntKind.i64.wrap (((8*(t+1):Nat):Int)*((z code+d+1:Nat):Int))=(gq t code d:Nat):=by
  have hb:8*(t+1)*(z code+d+1)<=8008*1032769:=Nat.mul_le_mul a7 a7;unfold gq;rw[<-N6,wrap_i64]<;>omega
 unfold eZ eO;simp only[go_sem,j6,U,a,b,e,i]
def aB:Str:=[83,69,69,68,6,0,0,0,1,0,0,0,1,0,240,1,65,0,16,1,0,0,16,17,0,0,16,16,0,0,16,24,0,0,0,26]
def aC:List Nat:=[32505857,17825857,286261248,269484032,403701760,436207616]
def a_r:ki aB=S (aC,1):=c8
def a_x:EI okI aC 1 [] (gq 0 aC 1)=(1,[65],6):=c8
def e_c:fR ⟨[],[],[]⟩=(([],0),7):=c8
def Tu{P:Program}{q:Nat}{o:cF}{f:FuncId}{R:AV->Prop}(h:bP P q o f [.agg [.d (.sl []),.d (.sl []),.d (.sl [])]] R):bP P q o f [.agg [.d .nsl,.d .nsl,.d .nsl]] R:=
 ⟨h.1,λJ w vs h0 U h2=>h.2 J w vs h0 U (by
  simp only[RVs,RV]at h2|-;obtain⟨u,us,rfl,⟨L,rfl,hl,Z⟩,al⟩:=h2;refine⟨_,us,rfl,⟨L,rfl,hl,λi c hi=>?_⟩,al⟩
  have hn:([.d .nsl,.d .nsl,.d .nsl]:List C)[i]?=S (.d .nsl):=by
   match i,hi with
   |0,_=>rfl
   |1,_=>rfl
   |2,_=>rfl
  have hs:c=.d (.sl []):=by
   match i,hi with
   |0,hi=>cases hi;rfl
   |1,hi=>cases hi;rfl
   |2,hi=>cases hi;rfl
  obtain⟨v,hv,x,I,V⟩:=Z i _ hn;cases I;cases V;exact⟨_,hv,_,hs,.sl0⟩)⟩
end
end Go.Proofs.YtlacbjnmkhndiaaGreatDoor.Low

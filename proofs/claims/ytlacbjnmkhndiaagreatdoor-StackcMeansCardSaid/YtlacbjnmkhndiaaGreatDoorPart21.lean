/- A part of the proof; no conditions. -/
import Derived.Test.YtlacbjnmkhndiaaGreatDoorPart20
set_option linter.unusedSimpArgs false
set_option linter.unusedVariables false
set_option linter.defProp false
open List renaming length -> z
open Option renaming some -> S, none -> N
open Bool renaming true -> T, false -> F
set_option maxHeartbeats 64000000
set_option maxRecDepth 100000
namespace Go.Proofs.YtlacbjnmkhndiaaGreatDoor.Low
section
attribute [local congr] Go.Am.ite_cc
open Go Go.Am Go.Lower
def OC{w:Int}{ps:Sig}{fi:Nat}{fw:Bool}:∀(al:Nat)(s:Stm)(q:Int),mO s<=al->al<=100000000000->rS w ps fi fw q s->eK 139 [ipS s] (nK s):=by
 intro al
 induction al using Nat.strongRecOn with
 |ind al ih=>
 intro s q hN b4 V;obtain⟨kind,slot,size,e,th,el⟩:=s;have az:mO (.mk kind slot size e th el)=iy e+eJ th+eJ el:=rfl;rw[rS]at V;obtain⟨an,b3,b5,X⟩:=V;have G:eK 77 [slS th] (bL th):=uA a7 λk s hs=>ih (mO s) W9 s (q+1) (l7 _) W9 (sZ b5 hs);have a6:eK 77 [slS el] (bL el):=uA a7 λk s hs=>ih (mO s) W9 s (q+1) (l7 _) W9 (sZ X hs);have cf:∀(k:Nat)(x:Ex)(d:Int),e[k]?=S x->eK 176 [ipE x] (bu d x):=λk x d I=>OV (lL x) x (q+1) d (l7 _) (by have:=lM I;omega) (qH b3 I);have hE:csD (.mk kind slot size e th el)=[.int .i64 kind,.int .i64 slot,.int .i64 size,.sl (e.map cxD),.sl (pL th),.sl (pL el)]:=by simp only[csD,nH]
 intro K E B word code g ob p ht m v O J hl;have hp:=Prog.start (K2:=K+120) ht v O J a7;refine hdF K Tryz.func139 rfl [] ?_;unfold ipS;rw[hE];by_cases h5:kind=5
 .subst h5
  have hn:z e=1:=by
   obtain⟨_,_,_,_,_,h⟩:=an;rcases h with⟨h,_⟩|⟨h,_⟩|⟨_,h⟩|⟨h,_⟩|⟨h,_⟩<;>omega
  obtain⟨c,rfl⟩:∃c,e=[c]:=by
   match e,hn with
   |[c],_=>exact⟨c,rfl⟩
  simp only[go_sem];refine bQ (KF (slot:=slot) (size:=size) (el:=el) (cf 0 c 0 rfl) G) hp rfl m (by unfold ipS;rw[hE];rfl) hl ?_;exact y2
 .generalize a:(if kind=4 then ifC (z code+(cEs (z code) 0 e).length) (λr=>cSs word r th) (!el.isEmpty) (λr=>cSs word r el)else pY word kind slot size (z e))=rest
  have ar:nK (.mk kind slot size e th el) word (z code)=(cEs (z code) 0 e).map Prod.fst++rest.map Prod.fst:=by
   simp only[nK,cS,j8 h5,B5,a]
  have bd:z code+(cEs (z code) 0 e).length+z rest<=1000000000:=by
   simp only[ar,j6,j7]at hl;omega
  simp only[go_sem,h5,j6]
  refine dZ (λn s=>∃k:Nat,n+k=z e/\s.f 0=.one (.ptr E p 0)/\s.f 1=.one (.d (.iptr [.int .i64 kind,.int .i64 slot,.int .i64 size,.sl (e.map cxD),.sl (pL th),.sl (pL el)]))/\s.f 19=iv .i64 (z e)/\s.f 20=iv .i64 k/\
   Prog K (K+120) E B word (code++(cEs (z code) 0 (e.take k)).map Prod.fst) g ob s.gen s.obj) (z e) ?_ ?_
  .refine⟨0,rfl,?_⟩
   rw[L5,cEs,w9,s7];simp only[go_sem];exact hp
  .rintro n f g1 av ⟨k,hk,f0,f1,b,u,p1⟩
   simp only at f0 f1 b u p1;have b6:z e<=iy e:=by rw[mr];omega
   have hw:=ac (k:=k) a7;by_cases af:k<z e
   .obtain⟨x,I⟩:=getq af
    have t:=uD e k x (z code) 0 I;have a1:=rM e (k+1) (z code) 0
    have cc:(cEs (z code) 0 (e.take k)).length+(cE (z code+(cEs (z code) 0 (e.take k)).length) (0+k) x).length<=(cEs (z code) 0 e).length:=by
     rw[t,j7]at a1;exact a1
    have H:(code++(cEs (z code) 0 (e.take k)).map Prod.fst).length=z code+(cEs (z code) 0 (e.take k)).length:=by rw[j7,j6]
    simp only[go_sem,f0,f1,b,u,af,I,j6,aZ];refine bQ (cf k x (0+k) I) p1 rfl m rfl (by rw[H];simp only[bu,j6];omega) ?_;intro g2 bo p2 q2 r2;rw[H]at p2;simp only[go_sem,f0,f1,b,u,hw];refine dG (n-1) a7 ⟨k+1,a7,?_⟩;simp only[go_sem,f0,f1,b,u,hw];rw[t,B5,<-u7];exact p2
   .have b0:k=z e:=a7
    subst b0;rw[H8]at p1;have j:(code++(cEs (z code) 0 e).map Prod.fst).length=z code+(cEs (z code) 0 e).length:=by rw[j7,j6]
    have bs:∀g' Y K2,Prog K K2 E B word (code++(cEs (z code) 0 e).map Prod.fst++rest.map Prod.fst) g ob g' Y->zw K E B word (code++nK (.mk kind slot size e th el) word (z code)) g ob g' (λi=>if decide (K<=i)=T then N else Y i):=by
     intro g' Y K2 L;have:code++nK (.mk kind slot size e th el) word (z code)=code++(cEs (z code) 0 e).map Prod.fst++rest.map Prod.fst:=by rw[ar,u7]
     rw[this];exact L.fin J
    generalize code++(cEs (z code) 0 e).map Prod.fst=A at *
    have hk:kind=1\/kind=2\/kind=3\/kind=6\/kind=7\/kind=4:=by
     obtain⟨_,_,_,_,_,h⟩:=an;rcases h with⟨h,_⟩|⟨h,_⟩|⟨h|h|h,_⟩|⟨h,_⟩|⟨h,_⟩<;>omega
    rcases hk with rfl|rfl|rfl|rfl|rfl|rfl
    .obtain rfl:[(⟨3,slot,0,0⟩,(z e:Int))]=rest:=a
     have bd:z A+1<=1000000000:=by rw[j];exact bd
     simp only[go_sem,f0,f1,b,u,af,j6];refine cw [⟨3,slot,0,0⟩] p1 rfl m a7 a7 rfl rfl bd ?_;exact ln
    .obtain rfl:[(⟨5,slot,size,0⟩,(z e:Int))]=rest:=a
     have bd:z A+1<=1000000000:=by rw[j];exact bd
     simp only[go_sem,f0,f1,b,u,af,j6];refine fL aA mixed [K+58] [([0],[0],[],F),([1],[],[],F),([49],[],[],F),([50],[],[],F),([51],[],[],F),([1],[],[],F),([53],[],[],F),([54],[],[],F),([55],[],[],F),([52,56],[],[],F),([57],[],[0],F),([48,58],[],[],T)] 1 c8 rfl a8 ?_;simp only[go_sem]
     iterate 10 (apply aI;· (intro fa ga oa K' J;simp only[go_sem,f0,f1]at J|-;exact J))
     (apply cJ;· (intro fa ga oa K' J;simp only[go_sem,f0,f1]at J|-;exact J))
     apply cL;intro K' a';simp only[go_sem];refine cw [⟨5,slot,size,0⟩] p1 rfl m a7 a7 rfl rfl bd ?_;intro g2 bo p2 q2 r2;refine a' _ ?_;simp only[go_sem];refine bH (λi=>decide (K<=i)) ?_;exact⟨rfl,bs _ _ _ p2⟩
    .obtain rfl:[(⟨13,0,0,0⟩,(z e:Int))]=rest:=a
     have bd:z A+1<=1000000000:=by rw[j];exact bd
     simp only[go_sem,f0,f1,b,u,af,j6];refine cw [⟨13,0,0,0⟩] p1 rfl m a7 a7 rfl rfl bd ?_;exact ln
    .obtain rfl:[(⟨10,slot,0,0⟩,(z e:Int))]=rest:=a
     have bd:z A+1<=1000000000:=by rw[j];exact bd
     simp only[go_sem,f0,f1,b,u,af,j6];refine cw [⟨10,slot,0,0⟩] p1 rfl m a7 a7 rfl rfl bd ?_;exact ln
    .by_cases hz:0<z e
     .obtain rfl:[(⟨11,0,0,0⟩,(z e:Int))]=rest:=by
       rw[<-a];unfold pY;simp only[show ¬((7:Int)=4) by decide,show ¬((7:Int)=1) by decide,show ¬((7:Int)=2) by decide,show ¬((7:Int)=3) by decide,show ¬((7:Int)=6) by decide,A8,B1];rw[j8 a7]
      have bd:z A+1<=1000000000:=by rw[j];exact bd
      simp only[go_sem,f0,f1,b,u,af,j6,Int.natCast_pos,hz];refine cw [⟨11,0,0,0⟩] p1 rfl m a7 a7 rfl rfl bd ?_;exact ln
     .obtain rfl:leave word=rest:=by
       rw[<-a];unfold pY;simp only[show ¬((7:Int)=4) by decide,show ¬((7:Int)=1) by decide,show ¬((7:Int)=2) by decide,show ¬((7:Int)=3) by decide,show ¬((7:Int)=6) by decide,A8,B1];rw[l8 a7]
      have bd:z A+z (leave word)<=1000000000:=by rw[j];exact bd
      simp only[go_sem,f0,f1,b,u,af,j6,Int.natCast_pos,hz];refine bQ CN p1 rfl m rfl (by simpa using bd) ?_;exact ln
    .simp only[B1]at a
     cases U:el with
     |nil=>
       subst U
       obtain rfl:(⟨9,(z A+1+(cSs word (z A+1) th).length:Nat),0,0⟩,1)::cSs word (z A+1) th=rest:=by
        rw[<-a,<-j];rfl
       have bd:z A+(1+(cSs word (z A+1) th).length)<=1000000000:=by
        rw[j9,<-j]at bd;omega
       have o:z (A++[(⟨9,0,0,0⟩:Ins)])=z A+1:=by rw[j7];rfl
       simp only[go_sem,f0,f1,b,u,af,j6];refine iL p1 rfl m rfl a7 ?_;intro g2 bo l gJ p2 o1 q2 r2;simp only[go_sem,f0,f1];refine bQ G p2 rfl m rfl Xl ?_;intro g3 b7 p3 q3 r3;rw[o]at p3
       have p3:Prog K (K+120+6) E B word (A++(⟨9,0,0,0⟩:Ins)::bL th word (z A+1)) g ob g3 b7:=by
        have:=p3;exact zv
       have o1:=o1.same (g':=g3) (Y:=b7) (q3 _ a7 a7) (q3 _ a7 a7) (r3 _ a7 a7) (r3 _ a7 a7);simp only[go_sem,f1,pL,l4];refine fS p3 o1 rfl m rfl rfl (by simp only[j7,j9,bL,j6,l4];omega) ?_;intro bf p4 r4;simp only[go_sem];refine iE (λi=>decide (K<=i)) ?_;refine⟨rfl,bs _ _ (K+120+6) ?_⟩
       have e1:(A++(⟨9,0,0,0⟩:Ins)::bL th word (z A+1)).length=z A+1+(cSs word (z A+1) th).length:=by
        simp only[j7,j9,bL,j6,l4];omega
       rw[e1]at p4;exact p4
     |cons y Q=>
       rw[<-U];have bz:el.isEmpty=F:=by rw[U];rfl
       have bl:0<z el:=by rw[U];simp
       have bk:¬(z el:Int)=0:=a7
       obtain rfl:(⟨9,(z A+1+(cSs word (z A+1) th).length+1:Nat),0,0⟩,1)::(cSs word (z A+1) th++(⟨8,(z A+1+(cSs word (z A+1) th).length+1+(cSs word (z A+1+(cSs word (z A+1) th).length+1) el).length:Nat),0,0⟩,0)::cSs word (z A+1+(cSs word (z A+1) th).length+1) el)=rest:=by
        rw[<-a,<-j,bz];rfl
       have bd:z A+(1+(cSs word (z A+1) th).length+1+(cSs word (z A+1+(cSs word (z A+1) th).length+1) el).length)<=1000000000:=by
        simp only[j9,j7,<-j]at bd;omega
       have o:z (A++[(⟨9,0,0,0⟩:Ins)])=z A+1:=by rw[j7];rfl
       simp only[go_sem,f0,f1,b,u,af,j6];refine iL p1 rfl m rfl a7 ?_;intro g2 bo l gJ p2 o1 q2 r2;simp only[go_sem,f0,f1];refine bQ G p2 rfl m rfl Xl ?_;intro g3 b7 p3 q3 r3;rw[o]at p3;have o1:=o1.same (g':=g3) (Y:=b7) (q3 _ a7 a7) (q3 _ a7 a7) (r3 _ a7 a7) (r3 _ a7 a7);have e6:(A++[(⟨9,0,0,0⟩:Ins)]++bL th word (z A+1)).length=z A+1+(cSs word (z A+1) th).length:=by rw[j7,o];simp only[bL,j6]
       simp only[go_sem,f0,f1,Ha,bk];refine iL p3 rfl m rfl a7 ?_;intro g4 bf bn b1 p4 o2 q4 r4;have o1:=o1.same (g':=g4) (Y:=bf) (q4 _ a7 a7) (q4 _ a7 a7) (r4 _ a7 a7 a7) (r4 _ a7 a7 a7)
       have p4:Prog K (K+120+6+6) E B word (A++(⟨9,0,0,0⟩:Ins)::(bL th word (z A+1)++[(⟨8,0,0,0⟩:Ins)])) g ob g4 bf:=by
        have:=p4;exact zv
       have W:(A++(⟨9,0,0,0⟩:Ins)::(bL th word (z A+1)++[(⟨8,0,0,0⟩:Ins)])).length=z A+1+(cSs word (z A+1) th).length+1:=by
        simp only[j7,j9,l4,bL,j6];omega
       simp only[go_sem];refine fS p4 o1 rfl m rfl rfl (by rw[W];omega) ?_;intro b' p5 r5;rw[W]at p5;have o2:=o2.same (g':=g4) (Y:=b') rfl rfl (r5 _ a7) (r5 _ a7)
       have Z:(A++(⟨9,((z A+1+(cSs word (z A+1) th).length+1:Nat):Int),0,0⟩:Ins)::(bL th word (z A+1)++[(⟨8,0,0,0⟩:Ins)])).length=z A+1+(cSs word (z A+1) th).length+1:=by
        simp only[j7,j9,l4,bL,j6];omega
       simp only[go_sem,f0,f1];refine bQ a6 p5 rfl m rfl (by rw[Z];simp only[bL,j6];omega) ?_;intro g6 P p6 q6 r6;rw[Z]at p6;have o2:=o2.same (g':=g6) (Y:=P) (q6 _ a7 a7) (q6 _ a7 a7) (r6 _ a7 a7) (r6 _ a7 a7)
       have p6:Prog K (K+120+6+6) E B word ((A++(⟨9,((z A+1+(cSs word (z A+1) th).length+1:Nat):Int),0,0⟩:Ins)::bL th word (z A+1))++(⟨8,0,0,0⟩:Ins)::bL el word (z A+1+(cSs word (z A+1) th).length+1)) g ob g6 P:=by
        have:=p6;exact zv
       have b8:(A++(⟨9,((z A+1+(cSs word (z A+1) th).length+1:Nat):Int),0,0⟩:Ins)::bL th word (z A+1)).length=(A++[(⟨9,0,0,0⟩:Ins)]++bL th word (z A+1)).length:=a8
       have b2:((A++(⟨9,((z A+1+(cSs word (z A+1) th).length+1:Nat):Int),0,0⟩:Ins)::bL th word (z A+1))++(⟨8,0,0,0⟩:Ins)::bL el word (z A+1+(cSs word (z A+1) th).length+1)).length=z A+1+(cSs word (z A+1) th).length+1+(cSs word (z A+1+(cSs word (z A+1) th).length+1) el).length:=by
        simp only[j7,j9,l4,bL,j6];omega
       rw[<-b8]at o2;simp only[go_sem];refine fS p6 o2 rfl m rfl rfl (by rw[b2];omega) ?_;intro ad p7 r7;rw[b2]at p7;simp only[go_sem];refine bH (λi=>decide (K<=i)) ?_;refine⟨rfl,bs _ _ (K+120+6+6) ?_⟩
       have e1:A++List.map Prod.fst (((⟨9,((z A+1+(cSs word (z A+1) th).length+1:Nat):Int),0,0⟩:Ins),(1:Int))::(cSs word (z A+1) th++(⟨8,((z A+1+(cSs word (z A+1) th).length+1+(cSs word (z A+1+(cSs word (z A+1) th).length+1) el).length:Nat):Int),0,0⟩,0)::cSs word (z A+1+(cSs word (z A+1) th).length+1) el)) =
         (A++(⟨9,((z A+1+(cSs word (z A+1) th).length+1:Nat):Int),0,0⟩:Ins)::bL th word (z A+1))++(⟨8,((z A+1+(cSs word (z A+1) th).length+1+(cSs word (z A+1+(cSs word (z A+1) th).length+1) el).length:Nat):Int),0,0⟩:Ins)::bL el word (z A+1+(cSs word (z A+1) th).length+1):=by
        simp only[bL,B5,l9,u7,C3]
       rw[e1];exact p7
end
end Go.Proofs.YtlacbjnmkhndiaaGreatDoor.Low

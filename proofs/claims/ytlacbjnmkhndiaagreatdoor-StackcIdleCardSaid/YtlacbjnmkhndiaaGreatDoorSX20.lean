/- The law StackcIdle holds of every input; the listed variables are tied to the program's text. -/
import Derived.Test.YtlacbjnmkhndiaaGreatDoorPart22
set_option linter.unusedSimpArgs false
set_option linter.unusedVariables false
set_option linter.defProp false
open List renaming length -> z
open Option renaming some -> S, none -> N
open Bool renaming true -> T, false -> F
set_option maxHeartbeats 64000000
set_option maxRecDepth 100000
namespace Go.Proofs.YtlacbjnmkhndiaaGreatDoor
open Go Go.Am Go.ChangeShapes Go.WideShapes Go.ChangeAt Go.RowKit
def sy(os:Os)(c:os.Started)(H:Type)(enc:TypeId×Value->H):
  ReturnsInHanded {} Tryz.checked os 4 .any (λw args=>(Rows.stackcIdleSpec.pre enc Tryz.prog Tryz.f4 Rows.stackcIdleRow.domain F w args/\laidMetH Tryz.prog yr w)/\sizedMet enc Tryz.prog Tryz.f4 (OpenSpec.ofChange Rows.stackcIdleSpec) F w args) (Rows.stackcIdleSpec.post enc Tryz.prog Tryz.f4 F T F F):=by
 refine oY (C:=Tryz.checked) own c j0 Tryz.func4
  (ChangeSpec.witness_shaped (enc:=enc) (C:=Tryz.checked) (os:=os) (X:=λw _=>laidMetH Tryz.prog yr w) F (World.laidAll Tryz.prog os yr) #[.agg #[.slice N 0 0,.slice N 0 0,.slice N 0 0],.string ⟨#[]⟩,.bool F] 8 (World.laidAll_os _ _ _)
    (World.shaped_of_ZipB j0 j0) j0 j0 j0
    (by rw[MakeChecks.laidMetH_plain _ _ _ j0];exact laidMet_laidAll _ j0 j0))
  rfl laidOut j0 rfl u4 (λds h=>by match ds,h with|[d0,r,s],_=>rfl) ?_
 intro W base args ds ps hX l E k;obtain⟨o,G,ho⟩:=Hf hX;obtain⟨v,I,d,d0,r,s,p0,p1,p2,rfl,rfl,rfl,⟨e,x⟩,⟨f,K⟩,⟨g,O⟩⟩:=trodAll_three (t:=26) (t':=9) (t'':=4) E;have k:(d0.weights Tryz.prog 26++(r.weights Tryz.prog 9++(s.weights Tryz.prog 4++[]))).all (·<=reachBytes)=T:=k;rw[G6,s5,G6,s5,G6,s5]at k;obtain⟨y,Q,A,_⟩:=k;have V:=(mF nO e (t:=26) b9 x y)
 obtain⟨a0,rfl⟩:∃a,v=.agg a:=by
  obtain⟨B,b6⟩:∃B,v.cells.toList=B:=⟨_,rfl⟩
  obtain⟨ds,U,_,Y,_⟩:=V;exact⟨_,SG (n:=1) b6 (by rw[<-b6,<-U.1,Y];kernel_rfl)⟩
 obtain⟨x0,bk,J,_⟩:=LY nO (t:=26) b9 x y;obtain⟨p,rfl,bl,i⟩:=Lg J;obtain⟨a1,rfl⟩:=okWide_string u9 (l 1 9 I rfl rfl);obtain⟨x1,m,u,_⟩:=DW nO (t:=9) b9 j0 rfl K Q;obtain⟨inp,Z,_⟩:=u.inv_str u9;cases Z;obtain⟨a2,rfl⟩:=okWide_bool u4 (l 2 4 d rfl rfl);obtain⟨L,dh,q,_⟩:=DW nO (t:=4) b9 j0 rfl O A;obtain⟨b,hb⟩:=q.inv_bool u4;cases hb;refine wY G (Low.OL ho p bl i inp b) ?_;simp only[RVs];exact⟨_,_,rfl,bk,_,_,rfl,⟨_,rfl,m⟩,_,_,rfl,⟨_,rfl,dh⟩,rfl⟩
def wU:Rows.StackcIdleSaid:=
 OpenClaim.holds_of_wide 4 Tryz.f4 rfl rfl rfl rfl rfl rfl rfl ⟨rfl,rfl,rfl,rfl,rfl⟩ rfl rfl rfl rfl rfl j0 Tryz.func4 OP
  (OX j0) (by unfold Func.isWrapper;first|(rw[l9 (by decide +kernel)];kernel_rfl)|(rw[j9 (by decide +kernel)];exact⟨rfl,rfl⟩))
  (λos c H a _=>sy os c H a)
theorem stackcIdle_holds:Rows.StackcIdleCardSaid:=
 Claim7.holds_tied_plain_at .later [] [.data,.data] T (T,"041245e0494031b3c2d616c7818744b8b410d7fc96c1c5cd50e72f7bc7d968c3") T wU (λ_ h=>by cases h) j0 (λ_ h=>by cases h) stackcIdle_row_tie rfl ⟨rfl,rfl⟩ j0 rfl
  (λf fn hf E=>by
    obtain rfl:f=4:=H0 ((show Tryz.prog.funcNamed "seedcorn/seedcornlaw23.StackcIdle" = S 4 by kernel_rfl).symm.trans hf)|>.symm;obtain rfl:fn=Tryz.f4:=(H0 (Tryz.func4.symm.trans E)).symm
    exact⟨j0,λj t ht=>by
     have hm:t∈Tryz.f4.params.toList:=by simpa using Vg ht
     have bs:(Tryz.f4.params.toList.all λu=>!Tryz.prog.wantsStandIn u)=T:=j0;exact(show Tryz.prog.wantsStandIn t=F by simpa using x9.1 bs t hm)⟩)
  Li
#print axioms stackcIdle_holds
end Go.Proofs.YtlacbjnmkhndiaaGreatDoor

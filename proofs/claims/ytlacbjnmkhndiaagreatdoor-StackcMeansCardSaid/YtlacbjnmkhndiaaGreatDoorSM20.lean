/- The law StackcMeans holds of every input; the listed variables are tied to the program's text. -/
import Derived.Test.YtlacbjnmkhndiaaGreatDoorPart22
set_option linter.unusedSimpArgs false
set_option linter.unusedVariables false
set_option linter.defProp false
open List renaming length -> z
open Option renaming some -> S, none -> N
open Bool renaming true -> T, false -> F
set_option maxHeartbeats 64000000
set_option maxRecDepth 100000
namespace Go.Proofs.YtlacbjnmkhndiaaGreatDoor
open Go Go.Am Go.ChangeShapes Go.WideShapes Go.ChangeAt Go.RowKit
def qf(os:Os)(b:os.Started)(H:Type)(enc:TypeId×Value->H):
  ReturnsInHanded {} Tryz.checked os 3 .any (λw args=>(Rows.stackcMeansSpec.pre enc Tryz.prog Tryz.f3 Rows.stackcMeansRow.domain F w args/\laidMetH Tryz.prog wH w)/\sizedMet enc Tryz.prog Tryz.f3 (OpenSpec.ofChange Rows.stackcMeansSpec) F w args) (Rows.stackcMeansSpec.post enc Tryz.prog Tryz.f3 F T F F):=by
 refine ny (C:=Tryz.checked) own b c9 Tryz.func3
  (ChangeSpec.witness_shaped (enc:=enc) (C:=Tryz.checked) (os:=os) (X:=λw _=>laidMetH Tryz.prog wH w) F (World.laidAll Tryz.prog os wH) #[.agg #[.slice N 0 0,.slice N 0 0,.slice N 0 0],.string ⟨#[]⟩] 8 (World.laidAll_os _ _ _)
    (World.shaped_of_ZipB c9 c9) c9 c9 c9
    (by rw[MakeChecks.laidMetH_plain _ _ _ c9];exact laidMet_laidAll _ c9 c9))
  rfl laidOut c9 rfl u4 (λds h=>by match ds,h with|[d0,g],_=>rfl) ?_
 intro W base args ds K hX l s f;obtain⟨o,v,ho⟩:=EL hX;obtain⟨i,E,d0,g,L,O,rfl,rfl,rfl,⟨c,j⟩,⟨d,x⟩⟩:=trodAll_two (t:=26) (t':=9) s;have f:(d0.weights Tryz.prog 26++(g.weights Tryz.prog 9++[])).all (·<=reachBytes)=T:=f;rw[H5,s5,H5,s5]at f;obtain⟨k,y,_⟩:=f;have A:=(lA qe c (t:=26) b9 j k)
 obtain⟨Q,rfl⟩:∃a,i=.agg a:=by
  obtain⟨m,r⟩:∃m,i.cells.toList=m:=⟨_,rfl⟩
  obtain⟨ds,U,_,B,_⟩:=A;exact⟨_,PH (n:=1) r (by rw[<-r,<-U.1,B];kernel_rfl)⟩
 obtain⟨V,bk,J,_⟩:=JB qe (t:=26) b9 j k;obtain⟨p,rfl,G,e⟩:=IM J;obtain⟨Y,rfl⟩:=okWide_string u9 (l 1 9 E rfl rfl);obtain⟨Z,q,u,_⟩:=JA qe (t:=9) b9 c9 rfl x y;obtain⟨inp,I,_⟩:=u.inv_str u9;cases I;refine vm v (Low.IZ ho p G e inp) ?_;simp only[RVs];exact⟨_,_,rfl,bk,_,_,rfl,⟨_,rfl,q⟩,rfl⟩
def sQ:Rows.StackcMeansSaid:=
 OpenClaim.holds_of_wide 3 Tryz.f3 rfl rfl rfl rfl rfl rfl rfl ⟨rfl,rfl,rfl,rfl,rfl⟩ rfl rfl rfl rfl rfl c9 Tryz.func3 Ma
  (M4 c9) (by unfold Func.isWrapper;first|(rw[l8 (by decide +kernel)];kernel_rfl)|(rw[j8 (by decide +kernel)];exact⟨rfl,rfl⟩))
  (λos b H a _=>qf os b H a)
theorem stackcMeans_holds:Rows.StackcMeansCardSaid:=
 Claim7.holds_tied_plain_at .later [] [.data,.data] T (T,"041245e0494031b3c2d616c7818744b8b410d7fc96c1c5cd50e72f7bc7d968c3") T sQ (λ_ h=>by cases h) c9 (λ_ h=>by cases h) stackcMeans_row_tie rfl ⟨rfl,rfl⟩ c9 rfl
  (λf fn hf Y=>by
    obtain rfl:f=3:=G6 ((show Tryz.prog.funcNamed "seedcorn/seedcornlaw23.StackcMeans" = S 3 by kernel_rfl).symm.trans hf)|>.symm;obtain rfl:fn=Tryz.f3:=(G6 (Tryz.func3.symm.trans Y)).symm
    exact⟨c9,λj t ht=>by
     have hm:t∈Tryz.f3.params.toList:=by simpa using So ht
     have bs:(Tryz.f3.params.toList.all λu=>!Tryz.prog.wantsStandIn u)=T:=c9;exact(show Tryz.prog.wantsStandIn t=F by simpa using y8.1 bs t hm)⟩)
  IP
#print axioms stackcMeans_holds
end Go.Proofs.YtlacbjnmkhndiaaGreatDoor

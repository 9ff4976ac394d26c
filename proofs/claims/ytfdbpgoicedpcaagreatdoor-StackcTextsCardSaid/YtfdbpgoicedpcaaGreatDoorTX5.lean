/- The law StackcTexts holds of every input; the listed variables are tied to the program's text. -/
import Derived.Test.YtfdbpgoicedpcaaGreatDoorPart19
set_option linter.all false
open List renaming length -> z
open Option renaming some -> S, none -> N
open Bool renaming true -> T, false -> F
set_option maxHeartbeats 64000000
set_option maxRecDepth 100000
namespace Go.Proofs.YtfdbpgoicedpcaaGreatDoor
open Go Go.Am Go.ChangeShapes Go.WideShapes Go.ChangeAt Go.RowKit
def uw(os:Os)(b:os.Started)(H:Type)(enc:TypeId×Value->H):ReturnsInHanded {} Tryz.checked os 3 .any (λw args=>(Rows.stackcTextsSpec.pre enc Tryz.prog Tryz.f3 Rows.stackcTextsRow.domain F w args/\laidMetH Tryz.prog xC w)/\sizedMet enc Tryz.prog Tryz.f3 (OpenSpec.ofChange Rows.stackcTextsSpec) F w args) (Rows.stackcTextsSpec.post enc Tryz.prog Tryz.f3 F T F F):=by
 refine rp (C:=Tryz.checked) own b j0 Tryz.func3
  (ChangeSpec.witness_shaped (enc:=enc) (C:=Tryz.checked) (os:=os) (X:=λw _=>laidMetH Tryz.prog xC w) F (World.laidAll Tryz.prog os xC) #[.agg #[.slice N 0 0,.slice N 0 0,.slice N 0 0],.string ⟨#[]⟩] 8 (World.laidAll_os _ _ _)
  (World.shaped_of_ZipB j0 j0) j0 j0 j0
  (by rw[MakeChecks.laidMetH_plain _ _ _ c8];exact laidMet_laidAll _ j0 j0))
  rfl laidOut j0 rfl u4 (λds h=>by match ds,h with|[d0,d1],_=>rfl) ?_;intro W base args ds L hX l m f;obtain⟨o,r,A,s,v⟩:=LG hX;obtain⟨g,x,d0,d1,O,Q,rfl,rfl,rfl,⟨c,j⟩,⟨d,y⟩⟩:=trodAll_two (t:=26) (t':=9) m;have f:(d0.weights Tryz.prog 26++(d1.weights Tryz.prog 9++[])).all (·<=reachBytes)=T:=f;rw[F7,l6,F7,l6]at f;obtain⟨z0,B,_⟩:=f;have bk:=(pn uu c (t:=26) a8 j z0);obtain⟨V,rfl⟩:∃a,g=.agg a:=by obtain⟨k,b2⟩:∃k,g.cells.toList=k:=⟨_,rfl⟩;obtain⟨ds,U,_,G,_⟩:=bk;exact⟨_,YT (n:=1) b2 (by rw[<-b2,<-U.1,G];kernel_rfl)⟩
 obtain⟨Y,I,J,_⟩:=Ro uu (t:=26) a8 j z0;obtain⟨p,rfl,E,e⟩:=Qx J;obtain⟨Z,rfl⟩:=okWide_string u9 (l 1 9 x rfl rfl);obtain⟨q,i,u,_⟩:=Rm uu (t:=9) a8 j0 rfl y B;obtain⟨inp,K,_⟩:=u.inv_str u9;cases K;refine Al r (Low.QI s A v p E e inp) ?_;simp only[RVs];exact⟨_,_,rfl,I,_,_,rfl,⟨_,rfl,i⟩,rfl⟩
def xK:Rows.StackcTextsSaid:=OpenClaim.holds_of_wide 3 Tryz.f3 rfl rfl rfl rfl rfl rfl rfl ⟨rfl,rfl,rfl,rfl,rfl⟩ rfl rfl rfl rfl rfl j0 Tryz.func3 UH
 (of_decide_eq_true j0) (by unfold Func.isWrapper;first|(rw[s5 (by decide+kernel)];kernel_rfl)|(rw[l4 (by decide+kernel)];exact⟨rfl,rfl⟩))
 (λos b H a _=>uw os b H a)
theorem stackcTexts_holds:Rows.StackcTextsCardSaid:=Claim7.holds_tied_plain_at .later [] [.data,.data,.data,.data,.data,.data] T (T,"c1200bbb9c32670afeb641c739c0afb063155fe0e371c905d0d877263c243cba") T xK abc j0 abc stackcTexts_row_tie rfl ⟨rfl,rfl⟩ j0 rfl
 (λf fn hf Y=>by obtain rfl:f=3:=F8 ((show Tryz.prog.funcNamed "seedcorn/seedcornlaw23.StackcTexts" =S 3 by kernel_rfl).symm.trans hf)|>.symm;obtain rfl:fn=Tryz.f3:=(F8 (Tryz.func3.symm.trans Y)).symm;exact⟨j0,λj t ht=>by
 have hm:t∈Tryz.f3.params.toList:=by simpa using Array.mem_of_getElem? ht
 have bs:(Tryz.f3.params.toList.all λu=>!Tryz.prog.wantsStandIn u)=T:=j0;exact(show Tryz.prog.wantsStandIn t=F by grind)⟩)
 Qz
#print axioms stackcTexts_holds
end Go.Proofs.YtfdbpgoicedpcaaGreatDoor

/- The law StackcErrs holds of every input; the listed variables are tied to the program's text. -/
import Derived.Test.YtgbcmokfgbmabaaGreatDoorRPart19
set_option linter.unusedSimpArgs false
set_option linter.unusedVariables false
set_option maxHeartbeats 64000000
set_option maxRecDepth 100000
namespace Go.Proofs.YtgbcmokfgbmabaaGreatDoorR
open Go Go.Am Go.ChangeShapes Go.WideShapes Go.ChangeAt Go.RowKit
theorem pG (os:Os) (started:os.Started) (H:Type) (enc:TypeId×Value→H) :
  ReturnsInHanded {} Tryz.checked os 4 .any (fun w args=>(Rows.stackcErrsSpec.pre enc Tryz.prog Tryz.f4 Rows.stackcErrsRow.domain false w args∧laidMetH Tryz.prog vq w)∧sizedMet enc Tryz.prog Tryz.f4 (OpenSpec.ofChange Rows.stackcErrsSpec) false w args) (Rows.stackcErrsSpec.post enc Tryz.prog Tryz.f4 false true false false):=by
 refine mE (C:=Tryz.checked) own started c8 Tryz.func4
  (ChangeSpec.witness_shaped (enc:=enc) (C:=Tryz.checked) (os:=os) (X:=fun w _=>laidMetH Tryz.prog vq w) false (World.laidAll Tryz.prog os vq) #[.agg #[.slice none 0 0,.slice none 0 0,.slice none 0 0]] 8 (World.laidAll_os _ _ _)
    (World.shaped_of_ZipB c8 c8) c8 c8 c8
    (by rw[MakeChecks.laidMetH_plain _ _ _ c8];exact laidMet_laidAll _ c8 c8))
  rfl laidOut c8 rfl u4 (fun ds h=>by match ds,h with|[d0],_=>rfl) ?_
 intro W base args ds ps hX hval hA hz
 obtain⟨o,hG,ho⟩:=Dd hX
 obtain⟨v0,d0,rfl,rfl,⟨fuel0,g0⟩⟩:=trodAll_one (t:=26) hA
 have hz:(d0.weights Tryz.prog 26++[]).all (·≤reachBytes)=true:=hz
 rw[G6,l6] at hz
 have z0:=hz.1
 have hc0:=(mv tw fuel0 (t:=26) a8 g0 z0)
 obtain⟨a0,rfl⟩:∃a,v0=.agg a:=by
  obtain⟨cs,hcs⟩:∃cs,v0.cells.toList=cs:=⟨_,rfl⟩
  obtain⟨ds,h1,_,h3,_⟩:=hc0
  exact⟨_,MQ (n:=1) hcs (by rw[←hcs,←h1.1,h3];kernel_rfl)⟩
 obtain⟨x0,hx0,ht0,_⟩:=It tw (t:=26) a8 g0 z0
 obtain⟨p,rfl,hin,hnp⟩:=Fh ht0
 refine uB hG (Low.IK ho p hin hnp) ?_
 simp only[RVs]
 exact⟨_,_,rfl,hx0,rfl⟩
theorem tC:Rows.StackcErrsSaid:=
 OpenClaim.holds_of_wide 4 Tryz.f4 rfl rfl rfl rfl rfl rfl rfl ⟨rfl,rfl,rfl,rfl,rfl⟩ rfl rfl rfl rfl rfl c8 Tryz.func4 IL
  (M9 c8) (by unfold Func.isWrapper;first|(rw[if_pos (by decide +kernel)];kernel_rfl)|(rw[if_neg (by decide +kernel)];exact⟨rfl,rfl⟩))
  (fun os started H enc _=>pG os started H enc)
theorem stackcErrs_holds:Rows.StackcErrsCardSaid:=
 Claim7.holds_tied_plain_at .later [] [.data,.data] true (true,"081a64ef3f1a909f6772ca69a02032461556490f8b40c2f1c7b11f5596d7527b") true tC (fun _ h=>by cases h) c8 (fun _ h=>by cases h) stackcErrs_row_tie rfl ⟨rfl,rfl⟩ c8 rfl
  (fun f fn hf hfn=>by
    obtain rfl:f=4:=E7 ((show Tryz.prog.funcNamed "seedcorn/seedcornlaw23.StackcErrs" = some 4 by kernel_rfl).symm.trans hf)|>.symm
    obtain rfl:fn=Tryz.f4:=(E7 (Tryz.func4.symm.trans hfn)).symm
    exact⟨c8,fun j t ht=>by
     have hm:t∈Tryz.f4.params.toList:=by simpa using U4 ht
     have hall:(Tryz.f4.params.toList.all fun u=>!Tryz.prog.wantsStandIn u)=true:=c8
     exact(show Tryz.prog.wantsStandIn t=false by simpa using x7.1 hall t hm)⟩)
  Fj
#print axioms stackcErrs_holds
end Go.Proofs.YtgbcmokfgbmabaaGreatDoorR

/- The law StackcEcho holds of every input; the listed variables are tied to the program's text. -/
import Derived.Test.YtbojbioflppbdaaGreatDoorPart18
set_option linter.unusedSimpArgs false
set_option linter.unusedVariables false
set_option maxHeartbeats 64000000
set_option maxRecDepth 100000
namespace Go.Proofs.YtbojbioflppbdaaGreatDoor
open Go Go.Am Go.ChangeShapes Go.WideShapes Go.ChangeAt Go.RowKit
theorem nZ (os:Os) (started:os.Started) (H:Type) (enc:TypeId×Value→H) :
  ReturnsInHanded {} Tryz.checked os 3 .any (fun w args=>(Rows.stackcEchoSpec.pre enc Tryz.prog Tryz.f3 Rows.stackcEchoRow.domain false w args∧laidMetH Tryz.prog nY w)∧sizedMet enc Tryz.prog Tryz.f3 (OpenSpec.ofChange Rows.stackcEchoSpec) false w args) (Rows.stackcEchoSpec.post enc Tryz.prog Tryz.f3 false true false false):=by
 refine iD (C:=Tryz.checked) own started c8 Tryz.func3
  (ChangeSpec.witness_shaped (enc:=enc) (C:=Tryz.checked) (os:=os) (X:=fun w _=>laidMetH Tryz.prog nY w) false (World.laidAll Tryz.prog os nY) #[.string .empty] 8 (World.laidAll_os _ _ _)
    (World.shaped_of_ZipB c8 c8) c8 c8 c8
    (by rw[MakeChecks.laidMetH_plain _ _ _ c8];exact laidMet_laidAll _ c8 c8))
  rfl laidOut c8 rfl u4 (fun ds h=>by match ds,h with|[d0],_=>rfl) ?_
 intro W base args ds ps hX hval hA hz
 obtain⟨o,hG,ho⟩:=tE hX
 obtain⟨v0,d0,rfl,rfl,⟨fuel0,g0⟩⟩:=trodAll_one (t:=9) hA
 have hz:(d0.weights Tryz.prog 9++[]).all (·≤reachBytes)=true:=hz
 rw[H5,l7] at hz
 have z0:=hz.1
 obtain⟨a0,rfl⟩:=okWide_string u9 (hval 0 9 v0 rfl rfl)
 obtain⟨x0,hx0,ht0,_⟩:=qD kS (t:=9) a8 c8 rfl g0 z0
 obtain⟨t,hi,_⟩:=ht0.inv_str u9
 cases hi
 refine mZ hG (Low.FM ho t) ?_
 simp only[RVs]
 exact⟨_,_,rfl,⟨_,rfl,hx0⟩,rfl⟩
theorem ry:Rows.StackcEchoSaid:=
 OpenClaim.holds_of_wide 3 Tryz.f3 rfl rfl rfl rfl rfl rfl rfl ⟨rfl,rfl,rfl,rfl,rfl⟩ rfl rfl rfl rfl rfl c8 Tryz.func3 FN
  (G9 c8) (by unfold Func.isWrapper;first|(rw[if_pos (by decide +kernel)];kernel_rfl)|(rw[if_neg (by decide +kernel)];exact⟨rfl,rfl⟩))
  (fun os started H enc _=>nZ os started H enc)
theorem stackcEcho_holds:Rows.StackcEchoCardSaid:=
 Claim7.holds_tied_plain_at .later [] [.data,.data] true (true,"50cb53565c8e1ca0c3fc880288f7c90b41ac4369313a4050e16eadfa95fa588e") true ry (fun _ h=>by cases h) c8 (fun _ h=>by cases h) stackcEcho_row_tie rfl ⟨rfl,rfl⟩ c8 rfl
  (fun f fn hf hfn=>by
    obtain rfl:f=3:=F0 ((show Tryz.prog.funcNamed "seedcorn/seedcornlaw23.StackcEcho" = some 3 by kernel_rfl).symm.trans hf)|>.symm
    obtain rfl:fn=Tryz.f3:=(F0 (Tryz.func3.symm.trans hfn)).symm
    exact⟨c8,fun j t ht=>by
     have hm:t∈Tryz.f3.params.toList:=by simpa using O0 ht
     have hall:(Tryz.f3.params.toList.all fun u=>!Tryz.prog.wantsStandIn u)=true:=c8
     exact(show Tryz.prog.wantsStandIn t=false by simpa using r0.1 hall t hm)⟩)
  Cu
#print axioms stackcEcho_holds
end Go.Proofs.YtbojbioflppbdaaGreatDoor

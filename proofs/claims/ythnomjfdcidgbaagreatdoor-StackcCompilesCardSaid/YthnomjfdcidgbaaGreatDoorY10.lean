/- The law StackcCompiles holds of every input; the listed variables are tied to the program's text. -/
import Derived.Test.YthnomjfdcidgbaaGreatDoorPart18
set_option linter.unusedSimpArgs false
set_option linter.unusedVariables false
set_option maxHeartbeats 64000000
set_option maxRecDepth 100000
namespace Go.Proofs.YthnomjfdcidgbaaGreatDoor
open Go Go.Am Go.ChangeShapes Go.WideShapes Go.ChangeAt Go.RowKit
theorem Gu {n:Nat}{x:D} (h:wW Tryz.prog (n+1) 9 [x]):∃s,x=.str s∧s.length≤140737488351232:=by
 unfold wW at h
 rw[u9] at h
 obtain⟨s,h1,h2⟩:=h
 simp only[L1,I8] at h1
 rw[Gv] at h2
 exact⟨s,h1,h2⟩
theorem mI (os:Os) (started:os.Started) (H:Type) (enc:TypeId×Value→H) :
  ReturnsInHanded {} Tryz.checked os 3 .any (fun w args=>(Rows.stackcCompilesSpec.pre enc Tryz.prog Tryz.f3 Rows.stackcCompilesRow.domain false w args∧laidMetH Tryz.prog vB w)∧sizedMet enc Tryz.prog Tryz.f3 (OpenSpec.ofChange Rows.stackcCompilesSpec) false w args) (Rows.stackcCompilesSpec.post enc Tryz.prog Tryz.f3 false true false false):=by
 refine nb (C:=Tryz.checked) own started c8 Tryz.func3
  (ChangeSpec.witness_shaped (enc:=enc) (C:=Tryz.checked) (os:=os) (X:=fun w _=>laidMetH Tryz.prog vB w) false (World.laidAll Tryz.prog os vB) #[.string .empty] 8 (World.laidAll_os _ _ _)
    (World.shaped_of_ZipB c8 c8) c8 c8 c8
    (by rw[MakeChecks.laidMetH_plain _ _ _ c8];exact laidMet_laidAll _ c8 c8))
  rfl laidOut c8 rfl u4 (fun ds h=>by match ds,h with|[d0],_=>rfl) ?_
 intro W base args ds ps hX hval hA hz
 obtain⟨o,hG,ho⟩:=Dk hX
 obtain⟨v0,d0,rfl,rfl,⟨fuel0,g0⟩⟩:=trodAll_one (t:=9) hA
 have hz:(d0.weights Tryz.prog 9++[]).all (·≤reachBytes)=true:=hz
 rw[N1,s6] at hz
 have z0:=hz.1
 obtain⟨a0,rfl⟩:=okWide_string u9 (hval 0 9 v0 rfl rfl)
 obtain⟨x0,hx0,ht0⟩:=Dy (n:=3) c8 rfl g0 z0
 obtain⟨s0,rfl,b0⟩:=Gu ht0
 exact ut hG (Low.Dj ho s0) (by simp only[RVs,RV];exact⟨_,_,rfl,⟨_,rfl,hx0⟩,rfl⟩)
theorem pt:Rows.StackcCompilesSaid:=
 OpenClaim.holds_of_wide 3 Tryz.f3 rfl rfl rfl rfl rfl rfl rfl ⟨rfl,rfl,rfl,rfl,rfl⟩ rfl rfl rfl rfl rfl c8 Tryz.func3 Ji
  (L7 c8) (by unfold Func.isWrapper;first|(rw[if_pos (by decide +kernel)];kernel_rfl)|(rw[if_neg (by decide +kernel)];exact⟨rfl,rfl⟩))
  (fun os started H enc _=>mI os started H enc)
theorem stackcCompiles_holds:Rows.StackcCompilesCardSaid:=
 Claim7.holds_tied_plain_at .later [] [.data,.data] true (true,"05a754f1b42f4b5d3ab2fa68498184b498c175ec4101d35775c60f1e58a36e40") true pt (fun _ h=>by cases h) c8 (fun _ h=>by cases h) stackcCompiles_row_tie rfl ⟨rfl,rfl⟩ c8 rfl
  (fun f fn hf hfn=>by
    obtain rfl:f=3:=E3 ((show Tryz.prog.funcNamed "seedcorn/seedcornlaw23.StackcCompiles" = some 3 by kernel_rfl).symm.trans hf)|>.symm
    obtain rfl:fn=Tryz.f3:=(E3 (Tryz.func3.symm.trans hfn)).symm
    exact⟨c8,fun j t ht=>by
     have hm:t∈Tryz.f3.params.toList:=by simpa using T4 ht
     have hall:(Tryz.f3.params.toList.all fun u=>!Tryz.prog.wantsStandIn u)=true:=c8
     exact(show Tryz.prog.wantsStandIn t=false by simpa using x6.1 hall t hm)⟩)
  Gx
#print axioms stackcCompiles_holds
end Go.Proofs.YthnomjfdcidgbaaGreatDoor

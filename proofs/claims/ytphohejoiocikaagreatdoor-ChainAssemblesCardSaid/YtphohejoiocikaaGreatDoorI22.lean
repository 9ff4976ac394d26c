/- The law ChainAssembles holds of every input; the listed variables are tied to the program's text. -/
import Derived.Test.YtphohejoiocikaaGreatDoorPart24
set_option linter.unusedSimpArgs false
set_option linter.unusedVariables false
set_option maxHeartbeats 64000000
set_option maxRecDepth 100000
namespace Go.Proofs.YtphohejoiocikaaGreatDoor
open Go Go.Am Go.ChangeShapes Go.WideShapes Go.ChangeAt Go.RowKit
theorem jm (os:Os) (started:os.Started) (H:Type) (enc:TypeId×Value→H) :
  ReturnsInHanded {} Tryz.checked os 3 .any (fun w args=>(Rows.chainAssemblesSpec.pre enc Tryz.prog Tryz.f3 Rows.chainAssemblesRow.domain false w args∧laidMetH Tryz.prog oU w)∧sizedMet enc Tryz.prog Tryz.f3 (OpenSpec.ofChange Rows.chainAssemblesSpec) false w args) (Rows.chainAssemblesSpec.post enc Tryz.prog Tryz.f3 false true false false):=by
 refine jD (C:=Tryz.checked) own started b6 Tryz.func3
  (ChangeSpec.witness_shaped (enc:=enc) (C:=Tryz.checked) (os:=os) (X:=fun w _=>laidMetH Tryz.prog oU w) false (World.laidAll Tryz.prog os oU) #[.agg #[.slice none 0 0,.int .i64 0]] 8 (World.laidAll_os _ _ _)
    (World.shaped_of_ZipB b6 b6) b6 b6 b6
    (by rw[MakeChecks.laidMetH_plain _ _ _ b6];exact laidMet_laidAll _ b6 b6))
  rfl laidOut b6 rfl u4 (fun ds h=>by match ds,h with|[d0],_=>rfl) ?_
 intro W base args ds ps hX hval hA hz
 obtain⟨o,hG,hp,ht⟩:=wQ hX
 obtain⟨v0,d0,rfl,rfl,⟨fuel0,g0⟩⟩:=trodAll_one (t:=24) hA
 have hz:(d0.weights Tryz.prog 24++[]).all (·≤reachBytes)=true:=hz
 rw[D4,l5] at hz
 have z0:=hz.1
 have hc0:=(jw oV fuel0 (t:=24) a8 g0 z0)
 obtain⟨a0,rfl⟩:∃a,v0=.agg a:=by
  obtain⟨cs,hcs⟩:∃cs,v0.cells.toList=cs:=⟨_,rfl⟩
  obtain⟨ds,h1,_,h3,_⟩:=hc0
  exact⟨_,EZ (n:=0) hcs (by rw[←hcs,←h1.1,h3];kernel_rfl)⟩
 obtain⟨x0,hx0,ht0,_⟩:=Bi oV (t:=24) a8 g0 z0
 obtain⟨code,d,rfl,hcw⟩:=Bw ht0
 refine pQ hG (mB hp ht code d hcw) ?_
 simp only[RVs]
 exact⟨_,_,rfl,hx0,rfl⟩
theorem kN:Rows.ChainAssemblesSaid:=
 OpenClaim.holds_of_wide 3 Tryz.f3 rfl rfl rfl rfl rfl rfl rfl ⟨rfl,rfl,rfl,rfl,rfl⟩ rfl rfl rfl rfl rfl b6 Tryz.func3 Bx
  (D8 b6) (by unfold Func.isWrapper;first|(rw[if_pos (by decide +kernel)];kernel_rfl)|(rw[if_neg (by decide +kernel)];exact⟨rfl,rfl⟩))
  (fun os started H enc _=>jm os started H enc)
theorem chainAssembles_holds:Rows.ChainAssemblesCardSaid:=
 Claim7.holds_tied_plain_at .later [] [.data,.data,.data,.data,.data,.data] true (true,"aa5140a2f3a4d7f239ef385084236ea2852b1902c5061c712aeccd516494d13a") true kN (fun _ h=>by cases h) b6 (fun _ h=>by cases h) chainAssembles_row_tie rfl ⟨rfl,rfl⟩ b6 rfl
  (fun f fn hf hfn=>by
    obtain rfl:f=3:=B3 ((show Tryz.prog.funcNamed "seedcorn/seedcornlaw51.ChainAssembles" = some 3 by kernel_rfl).symm.trans hf)|>.symm
    obtain rfl:fn=Tryz.f3:=(B3 (Tryz.func3.symm.trans hfn)).symm
    exact⟨b6,fun j t ht=>by
     have hm:t∈Tryz.f3.params.toList:=by simpa using LX ht
     have hall:(Tryz.f3.params.toList.all fun u=>!Tryz.prog.wantsStandIn u)=true:=b6
     exact(show Tryz.prog.wantsStandIn t=false by simpa using l7.1 hall t hm)⟩)
  yz
#print axioms chainAssembles_holds
end Go.Proofs.YtphohejoiocikaaGreatDoor

/- The law ChainSeed holds of every input; the listed variables are tied to the program's text. -/
import Derived.Test.YtgiigidgdhplfaaGreatDoorPart19
set_option linter.unusedSimpArgs false
set_option linter.unusedVariables false
set_option maxHeartbeats 64000000
set_option maxRecDepth 100000
namespace Go.Proofs.YtgiigidgdhplfaaGreatDoor
open Go Go.Am Go.ChangeShapes Go.WideShapes Go.ChangeAt Go.RowKit
theorem DB {n:Nat}{x:D} (h:vU Tryz.prog (n+1) 9 [x]):∃s,x=.str s∧s.length≤140737488351232:=by
 unfold vU at h
 rw[u9] at h
 obtain⟨s,h1,h2⟩:=h
 simp only[O8,L1] at h1
 rw[Dx] at h2
 exact⟨s,h1,h2⟩
theorem pi (os:Os) (started:os.Started) (H:Type) (enc:TypeId×Value→H) :
  ReturnsInHanded {} Tryz.checked os 3 .any (fun w args=>(Rows.chainSeedSpec.pre enc Tryz.prog Tryz.f3 Rows.chainSeedRow.domain false w args∧laidMetH Tryz.prog qe w)∧sizedMet enc Tryz.prog Tryz.f3 (OpenSpec.ofChange Rows.chainSeedSpec) false w args) (Rows.chainSeedSpec.post enc Tryz.prog Tryz.f3 false true false false):=by
 refine ma (C:=Tryz.checked) own started c8 Tryz.func3
  (ChangeSpec.witness_shaped (enc:=enc) (C:=Tryz.checked) (os:=os) (X:=fun w _=>laidMetH Tryz.prog qe w) false (World.laidAll Tryz.prog os qe) #[.string .empty] 8 (World.laidAll_os _ _ _)
    (World.shaped_of_ZipB c8 c8) c8 c8 c8
    (by rw[MakeChecks.laidMetH_plain _ _ _ c8];exact laidMet_laidAll _ c8 c8))
  rfl laidOut c8 rfl u4 (fun ds h=>by match ds,h with|[d0],_=>rfl) ?_
 intro W base args ds ps hX hval hA hz
 obtain⟨o,hG,hs,hp,ht⟩:=BA hX
 obtain⟨v0,d0,rfl,rfl,⟨fuel0,g0⟩⟩:=trodAll_one (t:=9) hA
 have hz:(d0.weights Tryz.prog 9++[]).all (·≤reachBytes)=true:=hz
 rw[O9,s9] at hz
 have z0:=hz.1
 obtain⟨a0,rfl⟩:=okWide_string u9 (hval 0 9 v0 rfl rfl)
 obtain⟨x0,hx0,ht0⟩:=CI (n:=3) c8 rfl g0 z0
 obtain⟨s0,rfl,b0⟩:=DB ht0
 exact sX hG (Low.Kb hs hp ht s0) (by simp only[RVs,RV];exact⟨_,_,rfl,⟨_,rfl,hx0⟩,rfl⟩)
theorem te:Rows.ChainSeedSaid:=
 OpenClaim.holds_of_wide 3 Tryz.f3 rfl rfl rfl rfl rfl rfl rfl ⟨rfl,rfl,rfl,rfl,rfl⟩ rfl rfl rfl rfl rfl c8 Tryz.func3 Hw
  (N2 c8) (by unfold Func.isWrapper;first|(rw[if_pos (by decide +kernel)];kernel_rfl)|(rw[if_neg (by decide +kernel)];exact⟨rfl,rfl⟩))
  (fun os started H enc _=>pi os started H enc)
theorem chainSeed_holds:Rows.ChainSeedCardSaid:=
 Claim7.holds_tied_plain_at .later [] [.data,.data,.data,.data,.data,.data] true (true,"c594e49dee30b4cdba2b9522073c16747884faa2824a35000a6c520dc6246407") true te (fun _ h=>by cases h) c8 (fun _ h=>by cases h) chainSeed_row_tie rfl ⟨rfl,rfl⟩ c8 rfl
  (fun f fn hf hfn=>by
    obtain rfl:f=3:=D5 ((show Tryz.prog.funcNamed "seedcorn/seedcornlaw51.ChainSeed" = some 3 by kernel_rfl).symm.trans hf)|>.symm
    obtain rfl:fn=Tryz.f3:=(D5 (Tryz.func3.symm.trans hfn)).symm
    exact⟨c8,fun j t ht=>by
     have hm:t∈Tryz.f3.params.toList:=by simpa using UW ht
     have hall:(Tryz.f3.params.toList.all fun u=>!Tryz.prog.wantsStandIn u)=true:=c8
     exact(show Tryz.prog.wantsStandIn t=false by simpa using x7.1 hall t hm)⟩)
  DA
#print axioms chainSeed_holds
end Go.Proofs.YtgiigidgdhplfaaGreatDoor

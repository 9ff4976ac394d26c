/- The law ChainErrs holds of every input; the listed variables are tied to the program's text. -/
import Derived.Test.YtlglgadejgdpcaaGreatDoorPart19
set_option linter.unusedSimpArgs false
set_option linter.unusedVariables false
set_option maxHeartbeats 64000000
set_option maxRecDepth 100000
namespace Go.Proofs.YtlglgadejgdpcaaGreatDoor
open Go Go.Am Go.ChangeShapes Go.WideShapes Go.ChangeAt Go.RowKit
theorem BS {n:Nat}{x:D} (h:vg Tryz.prog (n+1) 9 [x]):∃s,x=.str s∧s.length≤140737488351232:=by
 unfold vg at h
 rw[u9] at h
 obtain⟨s,h1,h2⟩:=h
 simp only[N4,I6] at h1
 rw[BN] at h2
 exact⟨s,h1,h2⟩
theorem oT (os:Os) (started:os.Started) (H:Type) (enc:TypeId×Value→H) :
  ReturnsInHanded {} Tryz.checked os 3 .any (fun w args=>(Rows.chainErrsSpec.pre enc Tryz.prog Tryz.f3 Rows.chainErrsRow.domain false w args∧laidMetH Tryz.prog pR w)∧sizedMet enc Tryz.prog Tryz.f3 (OpenSpec.ofChange Rows.chainErrsSpec) false w args) (Rows.chainErrsSpec.post enc Tryz.prog Tryz.f3 false true false false):=by
 refine lG (C:=Tryz.checked) own started c9 Tryz.func3
  (ChangeSpec.witness_shaped (enc:=enc) (C:=Tryz.checked) (os:=os) (X:=fun w _=>laidMetH Tryz.prog pR w) false (World.laidAll Tryz.prog os pR) #[.string .empty] 8 (World.laidAll_os _ _ _)
    (World.shaped_of_ZipB c9 c9) c9 c9 c9
    (by rw[MakeChecks.laidMetH_plain _ _ _ c9];exact laidMet_laidAll _ c9 c9))
  rfl laidOut c9 rfl u4 (fun ds h=>by match ds,h with|[d0],_=>rfl) ?_
 intro W base args ds ps hX hval hA hz
 obtain⟨o,hG,hs,hp,ht⟩:=Ac hX
 obtain⟨v0,d0,rfl,rfl,⟨fuel0,g0⟩⟩:=trodAll_one (t:=9) hA
 have hz:(d0.weights Tryz.prog 9++[]).all (·≤reachBytes)=true:=hz
 rw[N5,l9] at hz
 have z0:=hz.1
 obtain⟨a0,rfl⟩:=okWide_string u9 (hval 0 9 v0 rfl rfl)
 obtain⟨x0,hx0,ht0⟩:=Bh (n:=3) c9 rfl g0 z0
 obtain⟨s0,rfl,b0⟩:=BS ht0
 exact sm hG (Low.HG hs hp ht s0) (by simp only[RVs,RV];exact⟨_,_,rfl,⟨_,rfl,hx0⟩,rfl⟩)
theorem sy:Rows.ChainErrsSaid:=
 OpenClaim.holds_of_wide 3 Tryz.f3 rfl rfl rfl rfl rfl rfl rfl ⟨rfl,rfl,rfl,rfl,rfl⟩ rfl rfl rfl rfl rfl c9 Tryz.func3 Fe
  (G3 c9) (by unfold Func.isWrapper;first|(rw[if_pos (by decide +kernel)];kernel_rfl)|(rw[if_neg (by decide +kernel)];exact⟨rfl,rfl⟩))
  (fun os started H enc _=>oT os started H enc)
theorem chainErrs_holds:Rows.ChainErrsCardSaid:=
 Claim7.holds_tied_plain_at .later [] [.data,.data,.data,.data,.data,.data] true (true,"5db61591c02f17df937d08bfd8cbf929a9b129c96aad94a55cfc19742cf9b4dc") true sy (fun _ h=>by cases h) c9 (fun _ h=>by cases h) chainErrs_row_tie rfl ⟨rfl,rfl⟩ c9 rfl
  (fun f fn hf hfn=>by
    obtain rfl:f=3:=C3 ((show Tryz.prog.funcNamed "seedcorn/seedcornlaw51.ChainErrs" = some 3 by kernel_rfl).symm.trans hf)|>.symm
    obtain rfl:fn=Tryz.f3:=(C3 (Tryz.func3.symm.trans hfn)).symm
    exact⟨c9,fun j t ht=>by
     have hm:t∈Tryz.f3.params.toList:=by simpa using RL ht
     have hall:(Tryz.f3.params.toList.all fun u=>!Tryz.prog.wantsStandIn u)=true:=c9
     exact(show Tryz.prog.wantsStandIn t=false by simpa using s7.1 hall t hm)⟩)
  BR
#print axioms chainErrs_holds
end Go.Proofs.YtlglgadejgdpcaaGreatDoor

/- The law StackcOps holds of every input; the listed variables are tied to the program's text. -/
import Derived.Test.YtbojbioflppbdaaGreatDoorPart18
set_option linter.unusedSimpArgs false
set_option linter.unusedVariables false
set_option maxHeartbeats 64000000
set_option maxRecDepth 100000
namespace Go.Proofs.YtbojbioflppbdaaGreatDoor
open Go Go.Am Go.ChangeShapes Go.WideShapes Go.ChangeAt Go.RowKit
theorem pA (os:Os) (started:os.Started) (H:Type) (enc:TypeId×Value→H) :
  ReturnsInHanded {} Tryz.checked os 4 .any (fun w args=>(Rows.stackcOpsSpec.pre enc Tryz.prog Tryz.f4 Rows.stackcOpsRow.domain false w args∧laidMetH Tryz.prog nY w)∧sizedMet enc Tryz.prog Tryz.f4 (OpenSpec.ofChange Rows.stackcOpsSpec) false w args) (Rows.stackcOpsSpec.post enc Tryz.prog Tryz.f4 false true false false):=by
 refine iD (C:=Tryz.checked) own started c8 Tryz.func4
  (ChangeSpec.witness_shaped (enc:=enc) (C:=Tryz.checked) (os:=os) (X:=fun w _=>laidMetH Tryz.prog nY w) false (World.laidAll Tryz.prog os nY) #[.int .u8 0,.int .u32 0,.int .u32 0] 8 (World.laidAll_os _ _ _)
    (World.shaped_of_ZipB c8 c8) c8 c8 c8
    (by rw[MakeChecks.laidMetH_plain _ _ _ c8];exact laidMet_laidAll _ c8 c8))
  rfl laidOut c8 rfl u4 (fun ds h=>by match ds,h with|[d0,d1,d2],_=>rfl) ?_
 intro W base args ds ps hX hval hA hz
 obtain⟨o,hG,ho⟩:=tE hX
 obtain⟨v0,v1,v2,d0,d1,d2,p0,p1,p2,rfl,rfl,rfl,⟨fuel0,g0⟩,⟨fuel1,g1⟩,⟨fuel2,g2⟩⟩:=trodAll_three (t:=5) (t':=41) (t'':=41) hA
 have hz:(d0.weights Tryz.prog 5++(d1.weights Tryz.prog 41++(d2.weights Tryz.prog 41++[]))).all (·≤reachBytes)=true:=hz
 rw[H5,l7,H5,l7,H5,l7] at hz
 obtain⟨z0,z1,z2,_⟩:=hz
 have h1:IntKind.u8.min=0∧IntKind.u8.max=255∧IntKind.u32.min=0∧IntKind.u32.max=4294967295:=a8
 obtain⟨a0,rfl⟩:=okWide_int u5 (hval 0 5 v0 rfl rfl)
 obtain⟨x0,hx0,ht0,_⟩:=qD kS (t:=5) a8 c8 rfl g0 z0
 obtain⟨n0,hi0,hb0⟩:=ht0.inv_int u5
 cases hi0
 have w0:IntKind.u8.min≤n0∧n0≤IntKind.u8.max:=by simpa[Lit.wf] using hb0
 obtain⟨op,rfl,k0⟩:∃k:Nat,n0=(k:Int)∧k<256:=⟨n0.toNat,a6,a6⟩
 obtain⟨a1,rfl⟩:=okWide_int u41 (hval 1 41 v1 rfl rfl)
 obtain⟨x1,hx1,ht1,_⟩:=qD kS (t:=41) a8 c8 rfl g1 z1
 obtain⟨n1,hi1,hb1⟩:=ht1.inv_int u41
 cases hi1
 have w1:IntKind.u32.min≤n1∧n1≤IntKind.u32.max:=by simpa[Lit.wf] using hb1
 obtain⟨a,rfl,k1⟩:∃k:Nat,n1=(k:Int)∧k<4294967296:=⟨n1.toNat,a6,a6⟩
 obtain⟨a2,rfl⟩:=okWide_int u41 (hval 2 41 v2 rfl rfl)
 obtain⟨x2,hx2,ht2,_⟩:=qD kS (t:=41) a8 c8 rfl g2 z2
 obtain⟨n2,hi2,hb2⟩:=ht2.inv_int u41
 cases hi2
 have w2:IntKind.u32.min≤n2∧n2≤IntKind.u32.max:=by simpa[Lit.wf] using hb2
 obtain⟨b,rfl,k2⟩:∃k:Nat,n2=(k:Int)∧k<4294967296:=⟨n2.toNat,a6,a6⟩
 refine mZ hG (Low.IL ho op a b k0 k1 k2) ?_
 simp only[RVs]
 exact⟨_,_,rfl,⟨_,rfl,hx0⟩,_,_,rfl,⟨_,rfl,hx1⟩,_,_,rfl,⟨_,rfl,hx2⟩,rfl⟩
theorem sX:Rows.StackcOpsSaid:=
 OpenClaim.holds_of_wide 4 Tryz.f4 rfl rfl rfl rfl rfl rfl rfl ⟨rfl,rfl,rfl,rfl,rfl⟩ rfl rfl rfl rfl rfl c8 Tryz.func4 HB
  (G9 c8) (by unfold Func.isWrapper;first|(rw[if_pos (by decide +kernel)];kernel_rfl)|(rw[if_neg (by decide +kernel)];exact⟨rfl,rfl⟩))
  (fun os started H enc _=>pA os started H enc)
theorem stackcOps_holds:Rows.StackcOpsCardSaid:=
 Claim7.holds_tied_plain_at .later [] [.data,.data] true (true,"50cb53565c8e1ca0c3fc880288f7c90b41ac4369313a4050e16eadfa95fa588e") true sX (fun _ h=>by cases h) c8 (fun _ h=>by cases h) stackcOps_row_tie rfl ⟨rfl,rfl⟩ c8 rfl
  (fun f fn hf hfn=>by
    obtain rfl:f=4:=F0 ((show Tryz.prog.funcNamed "seedcorn/seedcornlaw23.StackcOps" = some 4 by kernel_rfl).symm.trans hf)|>.symm
    obtain rfl:fn=Tryz.f4:=(F0 (Tryz.func4.symm.trans hfn)).symm
    exact⟨c8,fun j t ht=>by
     have hm:t∈Tryz.f4.params.toList:=by simpa using O0 ht
     have hall:(Tryz.f4.params.toList.all fun u=>!Tryz.prog.wantsStandIn u)=true:=c8
     exact(show Tryz.prog.wantsStandIn t=false by simpa using r0.1 hall t hm)⟩)
  Ei
#print axioms stackcOps_holds
end Go.Proofs.YtbojbioflppbdaaGreatDoor

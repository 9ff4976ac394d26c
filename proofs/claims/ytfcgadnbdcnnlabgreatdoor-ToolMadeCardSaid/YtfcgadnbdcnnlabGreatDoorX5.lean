/- The law ToolMade holds of every input; the listed variables are tied to the program's text. -/
import Derived.Test.YtfcgadnbdcnnlabGreatDoorPart14
set_option linter.unusedSimpArgs false
set_option linter.unusedVariables false
namespace Go.Proofs.YtfcgadnbdcnnlabGreatDoor
open Go Go.Am Go.ChangeShapes Go.WideShapes Go.ChangeAt Go.RowKit
set_option maxRecDepth 100000 in
theorem toolMade_lifted (os:Os) (started:os.Started) (H:Type) (enc:TypeId × Value → H) :
  ReturnsInHanded {} Tryz.checked os 3 .any (fun w args=>(Rows.toolMadeSpec.pre enc Tryz.prog Tryz.f3 Rows.toolMadeRow.domain false w args ∧ laidMetH Tryz.prog laidV w) ∧ sizedMet enc Tryz.prog Tryz.f3 (OpenSpec.ofChange Rows.toolMadeSpec) false w args) (Rows.toolMadeSpec.post enc Tryz.prog Tryz.f3 false true false false):=by
 refine returns_of_law_laidX (C:=Tryz.checked) own started (by kernel_rfl) Tryz.func3
  (ChangeSpec.witness_shaped (enc:=enc) (C:=Tryz.checked) (os:=os) (X:=fun w _=>laidMetH Tryz.prog laidV w) false (World.laidAll Tryz.prog os laidV) #[.string .empty,.slice none 0 0,.int .u16 0] 8 (World.laidAll_os _ _ _)
    (World.shaped_of_ZipB (by kernel_rfl) (by kernel_rfl)) (by kernel_rfl) (by kernel_rfl) (by kernel_rfl)
    (by rw [MakeChecks.laidMetH_plain _ _ _ (by kernel_rfl)]; exact laidMet_laidAll _ (by kernel_rfl) (by kernel_rfl)))
  rfl laidOut (by kernel_rfl) rfl u4 (fun ds h=>by match ds,h with | [d0,d1,d2],_=>rfl) ?_
 intro W base args ds ps hX hval hA hz
 obtain ⟨o,hG,ho⟩:=small_held hX
 obtain ⟨v0,v1,v2,d0,d1,d2,p0,p1,p2,rfl,rfl,rfl,⟨fuel0,g0⟩,⟨fuel1,g1⟩,⟨fuel2,g2⟩⟩:=trodAll_three (t:=9) (t':=22) (t'':=23) hA
 have hz:(d0.weights Tryz.prog 9 ++ (d1.weights Tryz.prog 22 ++ (d2.weights Tryz.prog 23 ++ []))).all (· ≤ reachBytes) = true:=hz
 rw [List.all_append,Bool.and_eq_true,List.all_append,Bool.and_eq_true,List.all_append,Bool.and_eq_true] at hz
 obtain ⟨z0,z1,z2,_⟩:=hz
 obtain ⟨a0,rfl⟩:=okWide_string u9 (hval 0 9 v0 rfl rfl)
 obtain ⟨x0,hx0,ht0,_⟩:=arg_one closed_tys (t:=9) (by decide) (by kernel_rfl) rfl g0 z0
 obtain ⟨t,hi,_⟩:=ht0.inv_str u9
 cases hi
 obtain ⟨sa,sl,sc,rfl⟩:=okWide_slice u22 (hval 1 22 v1 rfl rfl)
 obtain ⟨x1,hx1,ht1,_⟩:=arg_one closed_tys (t:=22) (by decide) (by kernel_rfl) rfl g1 z1
 obtain ⟨l,rfl,hl⟩:=has_strs ht1
 obtain ⟨a2,rfl⟩:=okWide_int u23 (hval 2 23 v2 rfl rfl)
 obtain ⟨x2,hx2,ht2,_⟩:=arg_one closed_tys (t:=23) (by decide) (by kernel_rfl) rfl g2 z2
 obtain ⟨n,hi,hb⟩:=ht2.inv_int u23
 cases hi
 have hw:IntKind.u16.min ≤ n ∧ n ≤ IntKind.u16.max:=by simpa [Lit.wf] using hb
 have h1:IntKind.u16.min = 0:=by decide
 have h2:IntKind.u16.max = 65535:=by decide
 obtain ⟨k,rfl,hk⟩:∃ k:Nat,n = (k:Int) ∧ k < 65536:=⟨n.toNat,by omega,by omega⟩
 refine says_of_pureG hG (ToolMade_G ho t l k hk hl) ?_
 simp only [RVs]
 exact ⟨_,_,rfl,⟨_,rfl,hx0⟩,_,_,rfl,⟨_,rfl,hx1⟩,_,_,rfl,⟨_,rfl,hx2⟩,rfl⟩
theorem toolMade_row:Rows.ToolMadeSaid :=
 OpenClaim.holds_of_wide 3 Tryz.f3 rfl rfl rfl rfl rfl rfl rfl ⟨rfl,rfl,rfl,rfl,rfl⟩ rfl rfl rfl rfl rfl (by kernel_rfl) Tryz.func3 k_facts
  (of_decide_eq_true (by kernel_rfl)) (by unfold Func.isWrapper; first | (rw [if_pos (by decide +kernel)]; kernel_rfl) | (rw [if_neg (by decide +kernel)]; exact ⟨rfl,rfl⟩))
  (fun os started H enc _=>toolMade_lifted os started H enc)
theorem toolMade_holds:Rows.ToolMadeCardSaid :=
 Claim7.holds_tied_plain_at .later [] [.data,.data,.data,.data,.pinned] true (true,"d95d61bddb0f7566dd0439b121e1028bd411329478835875426187e05f8636dd") true toolMade_row (fun _ h=>by cases h) (by kernel_rfl) (fun _ h=>by cases h) toolMade_row_tie rfl ⟨rfl,rfl⟩ (by kernel_rfl) rfl
  (fun f fn hf hfn=>by
    obtain rfl:f = 3:=Option.some.inj ((show Tryz.prog.funcNamed "seedcorn/seedcornlaw39.ToolMade" = some 3 by kernel_rfl).symm.trans hf) |>.symm
    obtain rfl:fn = Tryz.f3:=(Option.some.inj (Tryz.func3.symm.trans hfn)).symm
    exact ⟨by kernel_rfl,fun j t ht=>by
     have hm:t ∈ Tryz.f3.params.toList:=by simpa using Array.mem_of_getElem? ht
     have hall:(Tryz.f3.params.toList.all fun u=>!Tryz.prog.wantsStandIn u) = true:=by kernel_rfl
     exact (show Tryz.prog.wantsStandIn t = false by simpa using List.all_eq_true.1 hall t hm)⟩)
  k_goesBy
#print axioms toolMade_holds
end Go.Proofs.YtfcgadnbdcnnlabGreatDoor

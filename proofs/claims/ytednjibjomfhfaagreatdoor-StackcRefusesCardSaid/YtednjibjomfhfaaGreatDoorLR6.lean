/- The law StackcRefuses holds of every input; the listed variables are tied to the program's text. -/
import Derived.Test.YtednjibjomfhfaaGreatDoorPart18
set_option linter.all false
open List renaming length -> z
open Option renaming some -> S, none -> N
open Bool renaming true -> T, false -> F
set_option maxHeartbeats 64000000
set_option maxRecDepth 100000
namespace Go.Proofs.YtednjibjomfhfaaGreatDoor
open Go Go.Am Go.ChangeShapes Go.WideShapes Go.ChangeAt Go.RowKit
def pD(os:Os)(b:os.Started)(H:Type)(enc:TypeId×Value->H):
  ReturnsInHanded {} Tryz.checked os 3 .any (λw args=>(Rows.stackcRefusesSpec.pre enc Tryz.prog Tryz.f3 Rows.stackcRefusesRow.domain F w args/\laidMetH Tryz.prog um w)/\sizedMet enc Tryz.prog Tryz.f3 (OpenSpec.ofChange Rows.stackcRefusesSpec) F w args) (Rows.stackcRefusesSpec.post enc Tryz.prog Tryz.f3 F T F F):=by
 refine oQ (C:=Tryz.checked) own b c8 Tryz.func3
  (ChangeSpec.witness_shaped (enc:=enc) (C:=Tryz.checked) (os:=os) (X:=λw _=>laidMetH Tryz.prog um w) F (World.laidAll Tryz.prog os um) #[.agg #[.slice N 0 0,.slice N 0 0,.slice N 0 0],.int .u8 0] 8 (World.laidAll_os _ _ _)
    (World.shaped_of_ZipB c8 c8) c8 c8 c8
    (by rw[MakeChecks.laidMetH_plain _ _ _ c8];exact laidMet_laidAll _ c8 c8))
  rfl laidOut c8 rfl u4 (λds h=>by match ds,h with|[d0,d1],_=>rfl) ?_
 intro W base args ds Y v l x g;obtain⟨o,m,y,A,B⟩:=GS v;obtain⟨j,f,d0,d1,Z,p1,rfl,rfl,rfl,⟨c,q⟩,⟨d,G⟩⟩:=trodAll_two (t:=26) (t':=5) x;have g:(d0.weights Tryz.prog 26++(d1.weights Tryz.prog 5++[])).all (·<=reachBytes)=T:=g;rw[G2,l4,G2,l4]at g;obtain⟨z0,I,_⟩:=g;have U:IntKind.u8.min=0/\IntKind.u8.max=255:=a7;have bl:=(mC qQ c (t:=26) a7 q z0)
 obtain⟨a0,rfl⟩:∃a,j=.agg a:=by
  obtain⟨r,s⟩:∃r,j.cells.toList=r:=⟨_,rfl⟩
  obtain⟨ds,U,_,J,_⟩:=bl;exact⟨_,Rw (n:=1) s (by rw[<-s,<-U.1,J];kernel_rfl)⟩
 obtain⟨x0,bk,K,_⟩:=LK qQ (t:=26) a7 q z0;obtain⟨p,rfl,E,e⟩:=Ka K;obtain⟨a1,rfl⟩:=okWide_int u5 (l 1 5 f rfl rfl);obtain⟨x1,i,u,_⟩:=LJ qQ (t:=5) a7 c8 rfl G I;obtain⟨Q,L,O⟩:=u.inv_int u5;cases L;have P:IntKind.u8.min<=Q/\Q<=IntKind.u8.max:=by simpa[Lit.wf]using O
 obtain⟨n,rfl,V⟩:∃k:Nat,Q=(k:Int)/\k<256:=⟨Q.toNat,a6,a6⟩
 refine wW m (Low.Hh A y B p E e n V) ?_;simp only[RVs];exact⟨_,_,rfl,bk,_,_,rfl,⟨_,rfl,i⟩,rfl⟩
def rX:Rows.StackcRefusesSaid:=
 OpenClaim.holds_of_wide 3 Tryz.f3 rfl rfl rfl rfl rfl rfl rfl ⟨rfl,rfl,rfl,rfl,rfl⟩ rfl rfl rfl rfl rfl c8 Tryz.func3 NW
  (M4 c8) (by unfold Func.isWrapper;first|(rw[l7 (by decide +kernel)];kernel_rfl)|(rw[j8 (by decide +kernel)];exact⟨rfl,rfl⟩))
  (λos b H a _=>pD os b H a)
theorem stackcRefuses_holds:Rows.StackcRefusesCardSaid:=
 Claim7.holds_tied_plain_at .later [] [.data,.data,.data,.data,.data,.data] T (T,"98e24b71d4288ee52dcfca28b29fc02ad9526b38d84332f64781f7438a37ef3a") T rX (λ_ h=>by cases h) c8 (λ_ h=>by cases h) stackcRefuses_row_tie rfl ⟨rfl,rfl⟩ c8 rfl
  (λf fn hf A=>by
    obtain rfl:f=3:=E8 ((show Tryz.prog.funcNamed "seedcorn/seedcornlaw23.StackcRefuses" = S 3 by kernel_rfl).symm.trans hf)|>.symm;obtain rfl:fn=Tryz.f3:=(E8 (Tryz.func3.symm.trans A)).symm
    exact⟨c8,λj t ht=>by
     have hm:t∈Tryz.f3.params.toList:=by simpa using Ta ht
     have bs:(Tryz.f3.params.toList.all λu=>!Tryz.prog.wantsStandIn u)=T:=c8;exact(show Tryz.prog.wantsStandIn t=F by simpa using x7.1 bs t hm)⟩)
  Kc
#print axioms stackcRefuses_holds
end Go.Proofs.YtednjibjomfhfaaGreatDoor

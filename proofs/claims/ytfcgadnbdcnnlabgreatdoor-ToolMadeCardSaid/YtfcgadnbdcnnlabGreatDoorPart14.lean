/- A part of the proof; no conditions. -/
import Derived.Test.YtfcgadnbdcnnlabGreatDoorPart13
import Derived.Lib.LaidU8
import Derived.OpenShut
import Derived.Laws.IdiomArrays
import Derived.Test.YtfcgadnbdcnnlabGreatDoorTie
import Derived.Test.YtfcgadnbdcnnlabGreatDoorCards
set_option linter.unusedSimpArgs false
set_option linter.unusedVariables false
namespace Go.Am
section
variable {P:Program} {t:TypeId} {ds:List D}
theorem HasS.inv_int {k:IntKind} (h:HasS P t ds) (hu:P.underlying t = some (.int k)):∃ m,ds = [.int k m] ∧ (Lit.int k m).wf = true:=by
 cases h with
 | int hu' m hw=>rw [hu] at hu'; cases hu'; exact ⟨m,rfl,hw⟩
 | bool hu'=>rw [hu] at hu'; cases hu'
 | str hu'=>rw [hu] at hu'; cases hu'
 | sl hu'=>rw [hu] at hu'; cases hu'
 | struct hu'=>rw [hu] at hu'; cases hu'
 | array hu'=>rw [hu] at hu'; cases hu'
theorem HasS.inv_str (h:HasS P t ds) (hu:P.underlying t = some .string):∃ s,ds = [.str s] ∧ s.length ≤ reachBytes:=by
 cases h with
 | str _ s hl=>exact ⟨s,rfl,hl⟩
 | bool hu'=>rw [hu] at hu'; cases hu'
 | int hu'=>rw [hu] at hu'; cases hu'
 | sl hu'=>rw [hu] at hu'; cases hu'
 | struct hu'=>rw [hu] at hu'; cases hu'
 | array hu'=>rw [hu] at hu'; cases hu'
theorem HasS.inv_sl {e:TypeId} (h:HasS P t ds) (hu:P.underlying t = some (.slice e)):∃ es,ds = [.sl es] ∧ es.length * P.bytesOf e ≤ reachBytes ∧ ∀ x ∈ es,HasS P e x:=by
 cases h with
 | sl hu' es hl hh=>rw [hu] at hu'; cases hu'; exact ⟨es,rfl,hl,hh⟩
 | bool hu'=>rw [hu] at hu'; cases hu'
 | int hu'=>rw [hu] at hu'; cases hu'
 | str hu'=>rw [hu] at hu'; cases hu'
 | struct hu'=>rw [hu] at hu'; cases hu'
 | array hu'=>rw [hu] at hu'; cases hu'
theorem list_of {α β:Type} {f:β → α} {Q:β → Prop}:∀ {l:List α},(∀ x ∈ l,∃ y,x = f y ∧ Q y) → ∃ m:List β,l = m.map f ∧ ∀ y ∈ m,Q y
 | [],_=>⟨[],rfl,fun _ h=>by cases h⟩
 | x :: l,h=>by
   obtain ⟨y,rfl,hy⟩:=h x (by simp)
   obtain ⟨m,rfl,hm⟩:=list_of (l:=l) fun x hx=>h x (by simp [hx])
   exact ⟨y :: m,rfl,fun z hz=>by
    rcases List.mem_cons.1 hz with rfl | hz
    ·exact hy
    ·exact hm z hz⟩
end
end Go.Am

namespace Go.Proofs.YtfcgadnbdcnnlabGreatDoor
open Go Go.Am Go.ChangeShapes Go.WideShapes Go.ChangeAt Go.RowKit Go.Lib
set_option maxRecDepth 100000
theorem own:ownKnob Tryz.prog.godebug = none:=by kernel_rfl
theorem laidOut:laidOutB Tryz.prog = true:=by kernel_rfl
def laidV:List (String × DataW Unit):=[("unicode/utf8.acceptRanges",Rows.laid_unicode_utf8_acceptRanges),("seedcorn/hex.small",Rows.laid_seedcorn_hex_small),("seedcorn/token.words",Rows.laid_seedcorn_token_words),("seedcorn/token.signs",Rows.laid_seedcorn_token_signs),("unicode/utf8.first",Rows.laid_unicode_utf8_first)]
theorem reach_eq:reachBytes = 140737488351232:=by kernel_rfl
theorem u9:Tryz.prog.underlying 9 = some .string:=by kernel_rfl
theorem u5:Tryz.prog.underlying 5 = some (.int .u8):=by kernel_rfl
theorem u4:Tryz.prog.underlying 4 = some .bool:=by kernel_rfl
theorem u3:Tryz.prog.underlying 3 = some (.int .i64):=by kernel_rfl
theorem u23:Tryz.prog.underlying 23 = some (.int .u16):=by kernel_rfl
theorem u22:Tryz.prog.underlying 22 = some (.slice 9):=by kernel_rfl
theorem has_strs {x:D} (h:HasS Tryz.prog 22 [x]):∃ l,x = strs l ∧ ∀ s ∈ l,s.length ≤ 140737488351232:=by
 obtain ⟨es,hx,_,he⟩:=h.inv_sl u22
 cases hx
 obtain ⟨m,rfl,hm⟩:=list_of (f:=fun w=>[D.str w]) (Q:=fun s=>s.length ≤ 140737488351232) fun x hx=>by
  obtain ⟨s,rfl,hs⟩:=(he x hx).inv_str u9
  exact ⟨s,rfl,by rw [← reach_eq]; exact hs⟩
 exact ⟨m,rfl,hm⟩
def tys:List TypeId:=[3,9,22,23]
theorem closed_tys:closedT Tryz.prog tys = true:=by kernel_rfl
theorem small_held {W:World} (h:laidMetH Tryz.prog laidV W):∃ o,Held 0 o W ∧ SmallO o:=by
 rw [MakeChecks.laidMetH_plain _ _ _ (by kernel_rfl)] at h
 obtain ⟨g,t,cs,fuel,p,hg,hty,hvar,hd⟩:=laidMet.reads h (n:= "seedcorn/hex.small") (d:=Rows.laid_seedcorn_hex_small) (by simp [laidV])
 obtain rfl:=Option.some.inj ((show Tryz.prog.globalNamed "seedcorn/hex.small" = some 0 by kernel_rfl).symm.trans hg)
 obtain rfl:=Option.some.inj ((show (Tryz.prog.globals[0]?).map (·.type) = some 141 by kernel_rfl).symm.trans hty)
 have hcs:=cells_of_tab (H:=Unit) (k:=.u8) (zs:=(List.range 16).map hexs) (show Tryz.prog.underlying 141 = some (.array 16 5) by kernel_rfl) u5 (by kernel_rfl) (by kernel_rfl) hd
 have hcell:∀ i:Nat,i < 16 → W.cell? ⟨0,i,none⟩ = some (.int .u8 (hexs i)):=fun i hi=>by
  have:=World.var?_cell hg hvar i
  rw [this,← Array.getElem?_toList,hcs]
  simp [hi]
 have h0:=hcell 0 (by decide)
 have hlt:0 < W.heap.size:=by
  refine Nat.lt_of_not_le fun hle=>?_
  simp [World.cell?,Array.getElem?_eq_none hle] at h0
 refine ⟨fun b=>W.heap[b]?,⟨hlt,fun _ _=>rfl⟩,fun w hw i hi=>?_⟩
 rw [← hcell i hi]
 unfold World.cell?
 rw [show w.heap[0]? = W.heap[0]? from hw.2 0 (Nat.le_refl _)]
end Go.Proofs.YtfcgadnbdcnnlabGreatDoor

namespace Go.Proofs.YtfcgadnbdcnnlabGreatDoor
open Go Go.Am
set_option maxRecDepth 100000
def cloL:List FuncId:=[3,4,5,7,6,11,13,26,51,83,52,84,27,28,12,25,49,80,122,79,121,50,82,81,123,124,181,182,183,184,279,144,173,174,229,280,333,334,365,335,336,366,367,368,125,14,29,54,55,88,130,89,90,131,87,91,92,132,192,281,282,337,339,338,369,283,284,53,85,126,185,127,128,129,186,187,188,189,191,190,193,86,56,93,94,133,95,134,194,135,195,30,31,57,96,136,196,285,197,286,199,200,198,287,288,137,201,289,290,295,340,291,292,293,202,294,203,97,98,138,139,58,59,61,102,145,230,297,298,341,231,299,342,146,60,99,140,204,205,206,207,296,208,100,141,209,210,142,211,212,213,214,215,216,217,218,219,220,221,222,223,224,225,226,227,143,228,101,32,33,62,63,15,16,34,35,64,65,66,104,149,150,235,237,236,238,239,240,151,241,306,307,352,353,370,371,354,372,373,152,308,355,356,309,357,358,103,147,232,300,343,246,310,233,301,344,345,234,302,249,248,311,346,347,303,348,349,350,351,305,304,106,156,250,251,312,313,359,314,158,157,159,148,67,105,153,242,243,245,154,244,247,155,107,160,161,252,253,315,254,316,317,319,318,320,255,162,17,36,18,37,68,108,163,256,257,321,164,258,165,259,322,360,323,324,325,361,69,109,166,260,167,262,261,263,265,271,264,267,326,362,276,269,327,328,266,168,268,169,270,170,272,329,110,171,273,330,274,275,332,363,374,375,364,331,172,111,112,175,176,177,8,19,38,20,39,41,40,70,72,71,42,21,22,43,46,75,44,73,45,74,47,76,113,114,115,10,9,24,23,48,77,116,78,117,118,119,120,178,277,278,179,180]
theorem clo:Tryz.prog.closure 3 = cloL:=by kernel_rfl
theorem k_unf:Tryz.prog.unfollowed 3 = true:=by
 unfold Program.unfollowed
 rw [clo]
 kernel_rfl
theorem k_rec:Tryz.prog.recurses 3 = true:=by
 unfold Program.recurses
 rw [k_unf]
 rfl
theorem k_inp:(Rows.toolMadeRow.inPlace == Tryz.prog.inPlace 3) = true:=by
 unfold Program.inPlace
 rw [clo]
 kernel_rfl
theorem k_nam:(Rows.toolMadeRow.named == Tryz.prog.varsNamed 3) = true:=by
 unfold Program.varsNamed
 rw [clo]
 kernel_rfl
theorem k_goes:Tryz.prog.goes 3 = false:=by
 unfold Program.goes
 rw [clo,k_unf]
 kernel_rfl
theorem k_facts:joinedFacts Tryz.prog 3 Tryz.f3 Rows.toolMadeSpec Rows.toolMadeRow = true:=by
 unfold joinedFacts
 rw [k_inp,k_nam,k_unf,k_rec]
 kernel_rfl
theorem k_goesBy:false = Rows.toolMadeRow.goesBy Tryz.prog:=by
 unfold OpenClaim.goesBy Program.goesAt Program.goesFrom
 rw [show Tryz.prog.funcNamed Rows.toolMadeRow.func = some 3 by kernel_rfl]
 simp only [Option.any_some,k_goes,Bool.false_or]
 rfl
end Go.Proofs.YtfcgadnbdcnnlabGreatDoor

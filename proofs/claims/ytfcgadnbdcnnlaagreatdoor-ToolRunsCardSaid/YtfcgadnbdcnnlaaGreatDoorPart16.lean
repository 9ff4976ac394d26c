/- A part of the proof; no conditions. -/
import Derived.Test.YtfcgadnbdcnnlaaGreatDoorPart15
import Derived.Lib.LaidU8
import Derived.OpenShut
import Derived.Laws.IdiomArrays
import Derived.Test.YtfcgadnbdcnnlaaGreatDoorTie
import Derived.Test.YtfcgadnbdcnnlaaGreatDoorCards
set_option linter.unusedSimpArgs false
set_option linter.unusedVariables false
namespace Go.Am
section
variable {P:Program} {t:TypeId} {ds:List D}
theorem HasS.inv_int {k:IntKind} (h:HasS P t ds) (hu:P.underlying t = some (.int k)):∃ m,ds = [.int k m] ∧ (Lit.int k m).wf = true:=by
 cases h with
 | int hu' m hw=>rw [hu] at hu'; cases hu'; exact ⟨m,rfl,hw⟩
 | bool hu'=>rw [hu] at hu'; cases hu'
 | str hu'=>rw [hu] at hu'; cases hu'
 | sl hu'=>rw [hu] at hu'; cases hu'
 | struct hu'=>rw [hu] at hu'; cases hu'
 | array hu'=>rw [hu] at hu'; cases hu'
theorem HasS.inv_str (h:HasS P t ds) (hu:P.underlying t = some .string):∃ s,ds = [.str s] ∧ s.length ≤ reachBytes:=by
 cases h with
 | str _ s hl=>exact ⟨s,rfl,hl⟩
 | bool hu'=>rw [hu] at hu'; cases hu'
 | int hu'=>rw [hu] at hu'; cases hu'
 | sl hu'=>rw [hu] at hu'; cases hu'
 | struct hu'=>rw [hu] at hu'; cases hu'
 | array hu'=>rw [hu] at hu'; cases hu'
theorem HasS.inv_sl {e:TypeId} (h:HasS P t ds) (hu:P.underlying t = some (.slice e)):∃ es,ds = [.sl es] ∧ es.length * P.bytesOf e ≤ reachBytes ∧ ∀ x ∈ es,HasS P e x:=by
 cases h with
 | sl hu' es hl hh=>rw [hu] at hu'; cases hu'; exact ⟨es,rfl,hl,hh⟩
 | bool hu'=>rw [hu] at hu'; cases hu'
 | int hu'=>rw [hu] at hu'; cases hu'
 | str hu'=>rw [hu] at hu'; cases hu'
 | struct hu'=>rw [hu] at hu'; cases hu'
 | array hu'=>rw [hu] at hu'; cases hu'
theorem HasS.inv_struct {fs:Array Field} (h:HasS P t ds) (hu:P.underlying t = some (.struct fs)):∃ parts:List (List D),ds = parts.flatten ∧ parts.length = fs.toList.length ∧ ∀ (i:Nat) (f:Field) (x:List D),fs.toList[i]? = some f → parts[i]? = some x → HasS P f.type x:=by
 cases h with
 | struct hu' parts hl hh=>rw [hu] at hu'; cases hu'; exact ⟨parts,rfl,hl,hh⟩
 | bool hu'=>rw [hu] at hu'; cases hu'
 | int hu'=>rw [hu] at hu'; cases hu'
 | str hu'=>rw [hu] at hu'; cases hu'
 | sl hu'=>rw [hu] at hu'; cases hu'
 | array hu'=>rw [hu] at hu'; cases hu'
theorem HasS.inv_array {n e:Nat} (h:HasS P t ds) (hu:P.underlying t = some (.array n e)):∃ parts:List (List D),ds = parts.flatten ∧ parts.length = n ∧ ∀ x ∈ parts,HasS P e x:=by
 cases h with
 | array hu' parts hl hs hh=>rw [hu] at hu'; cases hu'; exact ⟨parts,rfl,hl,hh⟩
 | bool hu'=>rw [hu] at hu'; cases hu'
 | int hu'=>rw [hu] at hu'; cases hu'
 | str hu'=>rw [hu] at hu'; cases hu'
 | sl hu'=>rw [hu] at hu'; cases hu'
 | struct hu'=>rw [hu] at hu'; cases hu'
theorem list_of {α β:Type} {f:β → α} {Q:β → Prop}:∀ {l:List α},(∀ x ∈ l,∃ y,x = f y ∧ Q y) → ∃ m:List β,l = m.map f ∧ ∀ y ∈ m,Q y
 | [],_=>⟨[],rfl,fun _ h=>by cases h⟩
 | x :: l,h=>by
   obtain ⟨y,rfl,hy⟩:=h x (by simp)
   obtain ⟨m,rfl,hm⟩:=list_of (l:=l) fun x hx=>h x (by simp [hx])
   exact ⟨y :: m,rfl,fun z hz=>by
    rcases List.mem_cons.1 hz with rfl | hz
    ·exact hy
    ·exact hm z hz⟩
end
end Go.Am

namespace Go.Proofs.YtfcgadnbdcnnlaaGreatDoor
open Go Go.Am Go.ChangeShapes Go.WideShapes Go.ChangeAt Go.RowKit Go.Lib
set_option maxRecDepth 100000
theorem own:ownKnob Tryz.prog.godebug = none:=by kernel_rfl
theorem laidOut:laidOutB Tryz.prog = true:=by kernel_rfl
def laidV:List (String × DataW Unit):=[("unicode/utf8.acceptRanges",Rows.laid_unicode_utf8_acceptRanges),("seedcorn/hex.small",Rows.laid_seedcorn_hex_small),("seedcorn/token.words",Rows.laid_seedcorn_token_words),("seedcorn/token.signs",Rows.laid_seedcorn_token_signs),("unicode/utf8.first",Rows.laid_unicode_utf8_first)]
theorem reach_eq:reachBytes = 140737488351232:=by kernel_rfl
theorem u9:Tryz.prog.underlying 9 = some .string:=by kernel_rfl
theorem u5:Tryz.prog.underlying 5 = some (.int .u8):=by kernel_rfl
theorem u4:Tryz.prog.underlying 4 = some .bool:=by kernel_rfl
theorem u3:Tryz.prog.underlying 3 = some (.int .i64):=by kernel_rfl
def dRow (d:Int × Int × Int × Int):List D:=[.int .u32 d.1,.int .u32 d.2.1,.int .u32 d.2.2.1,.int .u32 d.2.2.2]
theorem u24:∃ e,Tryz.prog.underlying 24 = some (.array 4 e) ∧ Tryz.prog.underlying e = some (.int .u32):=⟨22,by kernel_rfl,by kernel_rfl⟩
theorem u25:Tryz.prog.underlying 25 = some (.slice 3):=by kernel_rfl
theorem u26:Tryz.prog.underlying 26 = some (.slice 24):=by kernel_rfl
def fieldTys:Option TypeDesc → Option (List TypeId)
 | some (.struct fs)=>some (fs.toList.map (·.type))
 | _=>none
theorem u28:∃ fs:Array Field,Tryz.prog.underlying 28 = some (.struct fs) ∧ fs.toList.map (·.type) = [3,24,25,26,3]:=by
 have h:fieldTys (Tryz.prog.underlying 28) = some [3,24,25,26,3]:=by kernel_rfl
 cases hu:Tryz.prog.underlying 28 with
 | none=>rw [hu] at h; cases h
 | some d =>
   rw [hu] at h
   cases d with
   | struct fs=>exact ⟨fs,rfl,Option.some.inj h⟩
   | _=>cases h
theorem has_dig {x:List D} (h:HasS Tryz.prog 24 x):∃ d,x = dRow d:=by
 obtain ⟨e,h1,h2⟩:=u24
 obtain ⟨parts,rfl,hl,hp⟩:=h.inv_array h1
 match parts,hl with
 | [a,b,c,d],_ =>
   obtain ⟨x0,rfl,_⟩:=(hp a (by simp)).inv_int h2
   obtain ⟨x1,rfl,_⟩:=(hp b (by simp)).inv_int h2
   obtain ⟨x2,rfl,_⟩:=(hp c (by simp)).inv_int h2
   obtain ⟨x3,rfl,_⟩:=(hp d (by simp)).inv_int h2
   exact ⟨(x0,x1,x2,x3),rfl⟩
theorem has_pass {x:List D} (h:HasS Tryz.prog 25 x):∃ ps,x = [passD ps]:=by
 obtain ⟨es,rfl,_,he⟩:=h.inv_sl u25
 obtain ⟨m,rfl,_⟩:=list_of (f:=fun p=>[D.int .i64 p]) (Q:=fun _=>True) fun x hx=>by
  obtain ⟨n,rfl,_⟩:=(he x hx).inv_int u3
  exact ⟨n,rfl,trivial⟩
 exact ⟨m,rfl⟩
theorem has_digs {x:List D} (h:HasS Tryz.prog 26 x):∃ ds,x = [digD ds]:=by
 obtain ⟨es,rfl,_,he⟩:=h.inv_sl u26
 obtain ⟨m,rfl,_⟩:=list_of (f:=dRow) (Q:=fun _=>True) fun x hx=>by
  obtain ⟨d,rfl⟩:=has_dig (he x hx)
  exact ⟨d,rfl,trivial⟩
 exact ⟨m,rfl⟩
theorem has_rec {x:List D} (h:HasS Tryz.prog 28 x):∃ r,x = recCs r:=by
 obtain ⟨fs,h1,h2⟩:=u28
 obtain ⟨parts,rfl,hl,hp⟩:=h.inv_struct h1
 have hlen:fs.toList.length = 5:=by have:=congrArg List.length h2; simpa using this
 have hty:∀ (i:Nat) (ty:TypeId) (x:List D),[3,24,25,26,3][i]? = some ty → parts[i]? = some x → HasS Tryz.prog ty x:=fun i ty x hi hx=>by
  rw [← h2,List.getElem?_map] at hi
  cases hf:fs.toList[i]? with
  | none=>rw [hf] at hi; cases hi
  | some f=>rw [hf] at hi; cases hi; exact hp i f x hf hx
 rw [hlen] at hl
 match parts,hl with
 | [a,b,c,d,e],_ =>
   obtain ⟨n0,rfl,_⟩:=(hty 0 3 a rfl rfl).inv_int u3
   obtain ⟨im,rfl⟩:=has_dig (hty 1 24 b rfl rfl)
   obtain ⟨ps,rfl⟩:=has_pass (hty 2 25 c rfl rfl)
   obtain ⟨ds,rfl⟩:=has_digs (hty 3 26 d rfl rfl)
   obtain ⟨n4,rfl,_⟩:=(hty 4 3 e rfl rfl).inv_int u3
   exact ⟨⟨n0,im,ps,ds,n4⟩,rfl⟩
theorem u29:Tryz.prog.underlying 29 = some (.slice 9):=by kernel_rfl
theorem has_strs {x:D} (h:HasS Tryz.prog 29 [x]):∃ l,x = strs l ∧ ∀ s ∈ l,s.length ≤ 140737488351232:=by
 obtain ⟨es,hx,_,he⟩:=h.inv_sl u29
 cases hx
 obtain ⟨m,rfl,hm⟩:=list_of (f:=fun w=>[D.str w]) (Q:=fun s=>s.length ≤ 140737488351232) fun x hx=>by
  obtain ⟨s,rfl,hs⟩:=(he x hx).inv_str u9
  exact ⟨s,rfl,by rw [← reach_eq]; exact hs⟩
 exact ⟨m,rfl,hm⟩
theorem agg_of {v:Value} {cs:List Value} {n:Nat} (h:v.cells.toList = cs) (hl:cs.length = n + 2):v = .agg cs.toArray:=by
 subst h
 cases v with
 | agg vs=>simp [Value.cells]
 | _=>simp [Value.cells] at hl
def tys:List TypeId:=[3,9,22,24,25,26,28,29]
theorem closed_tys:closedT Tryz.prog tys = true:=by kernel_rfl
theorem small_held {W:World} (h:laidMetH Tryz.prog laidV W):∃ o,Held 0 o W ∧ SmallO o:=by
 rw [MakeChecks.laidMetH_plain _ _ _ (by kernel_rfl)] at h
 obtain ⟨g,t,cs,fuel,p,hg,hty,hvar,hd⟩:=laidMet.reads h (n:= "seedcorn/hex.small") (d:=Rows.laid_seedcorn_hex_small) (by simp [laidV])
 obtain rfl:=Option.some.inj ((show Tryz.prog.globalNamed "seedcorn/hex.small" = some 0 by kernel_rfl).symm.trans hg)
 obtain rfl:=Option.some.inj ((show (Tryz.prog.globals[0]?).map (·.type) = some 124 by kernel_rfl).symm.trans hty)
 have hcs:=cells_of_tab (H:=Unit) (k:=.u8) (zs:=(List.range 16).map hexs) (show Tryz.prog.underlying 124 = some (.array 16 5) by kernel_rfl) u5 (by kernel_rfl) (by kernel_rfl) hd
 have hcell:∀ i:Nat,i < 16 → W.cell? ⟨0,i,none⟩ = some (.int .u8 (hexs i)):=fun i hi=>by
  have:=World.var?_cell hg hvar i
  rw [this,← Array.getElem?_toList,hcs]
  simp [hi]
 have h0:=hcell 0 (by decide)
 have hlt:0 < W.heap.size:=by
  refine Nat.lt_of_not_le fun hle=>?_
  simp [World.cell?,Array.getElem?_eq_none hle] at h0
 refine ⟨fun b=>W.heap[b]?,⟨hlt,fun _ _=>rfl⟩,fun w hw i hi=>?_⟩
 rw [← hcell i hi]
 unfold World.cell?
 rw [show w.heap[0]? = W.heap[0]? from hw.2 0 (Nat.le_refl _)]
end Go.Proofs.YtfcgadnbdcnnlaaGreatDoor

namespace Go.Proofs.YtfcgadnbdcnnlaaGreatDoor
open Go Go.Am
set_option maxRecDepth 100000
def cloL:List FuncId:=[3,4,5,6,7,10,8,11,13,26,50,86,51,87,27,28,12,25,48,83,125,82,124,49,85,84,126,127,186,187,188,189,287,147,176,177,234,288,344,345,378,346,347,379,380,381,128,14,29,53,54,91,133,92,93,134,90,94,95,135,197,289,290,348,350,349,382,291,292,52,88,129,190,130,131,132,191,192,193,194,196,195,198,89,55,96,97,136,98,137,199,138,200,30,31,56,99,139,201,293,202,294,204,205,203,295,296,140,206,297,298,303,351,299,300,301,207,302,208,100,101,141,142,57,58,60,105,148,235,305,306,352,236,307,353,149,59,102,143,209,210,211,212,304,213,103,144,214,215,145,216,217,218,219,220,221,222,223,224,225,226,227,228,229,230,231,232,146,233,104,32,33,61,62,15,16,34,35,63,64,65,107,152,153,240,242,241,243,244,245,154,246,314,315,363,364,383,384,365,385,386,155,316,366,367,317,368,369,106,150,237,308,354,251,318,238,309,355,356,239,310,254,253,319,357,358,311,359,360,361,362,313,312,109,159,255,256,320,321,370,322,161,160,162,151,66,108,156,247,248,250,157,249,252,158,110,163,164,257,258,323,259,324,325,327,326,328,260,165,17,36,18,37,67,111,166,261,262,329,167,263,168,264,330,371,331,332,333,372,68,112,169,265,170,267,266,268,270,276,269,272,334,373,281,274,335,336,271,171,273,172,275,173,277,337,113,174,278,338,279,280,340,374,387,388,375,339,175,114,115,178,179,180,9,19,38,21,20,39,69,40,71,70,116,181,282,123,183,184,185,182,283,284,285,286,341,376,377,342,343,22,41,23,42,72,43,73,75,74,117,119,118,76,44,45,77,80,122,78,120,79,121,81,24,46,47]
theorem clo:Tryz.prog.closure 3 = cloL:=by kernel_rfl
theorem k_unf:Tryz.prog.unfollowed 3 = true:=by
 unfold Program.unfollowed
 rw [clo]
 kernel_rfl
theorem k_rec:Tryz.prog.recurses 3 = true:=by
 unfold Program.recurses
 rw [k_unf]
 rfl
theorem k_inp:(Rows.toolRunsRow.inPlace == Tryz.prog.inPlace 3) = true:=by
 unfold Program.inPlace
 rw [clo]
 kernel_rfl
theorem k_nam:(Rows.toolRunsRow.named == Tryz.prog.varsNamed 3) = true:=by
 unfold Program.varsNamed
 rw [clo]
 kernel_rfl
theorem k_goes:Tryz.prog.goes 3 = false:=by
 unfold Program.goes
 rw [clo,k_unf]
 kernel_rfl
theorem k_facts:joinedFacts Tryz.prog 3 Tryz.f3 Rows.toolRunsSpec Rows.toolRunsRow = true:=by
 unfold joinedFacts
 rw [k_inp,k_nam,k_unf,k_rec]
 kernel_rfl
theorem k_goesBy:false = Rows.toolRunsRow.goesBy Tryz.prog:=by
 unfold OpenClaim.goesBy Program.goesAt Program.goesFrom
 rw [show Tryz.prog.funcNamed Rows.toolRunsRow.func = some 3 by kernel_rfl]
 simp only [Option.any_some,k_goes,Bool.false_or]
 rfl
end Go.Proofs.YtfcgadnbdcnnlaaGreatDoor

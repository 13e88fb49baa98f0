/- For every input the law NodeNames returns true and its arguments read as they did: no condition. -/
import Derived.Test.YtgaghkafmeelhaaGreatWalk3
import Derived.Test.YtgaghkafmeelhaaGreatRows
import Derived.WalkKit
import Derived.ProofKit
import Derived.OpenShut
import Derived.JoinedOf
set_option linter.constructorNameAsVariable false
set_option linter.unusedVariables false
set_option linter.unusedSimpArgs false
set_option linter.unnecessarySimpa false
namespace Go.Proofs.YtgaghkafmeelhaaGreat.nodeNames
open Go.Vm Go.ChangeShapes Go.WideShapes Go.ChangeAt Go.RowKit
set_option linter.unusedVariables false
set_option maxRecDepth 100000
theorem own:ownKnob Tryz.prog.godebug=none:=by kernel_rfl
def R:List TypeId:=[]
theorem D9i:A44 Tryz.prog R=true:=by kernel_rfl
theorem contract (H:Type) (enc:TypeId×Value→H) (W:World) (T4:Nat) (args:Array Value) (ds gs:List (DataW H)) (before:List MemPlace)
  (hval:∀ (j:Nat) t v,Tryz.f3.params[j]? = some t→args[j]? = some v→Value.okWide Tryz.prog W .any T4 t v)
  (hW:DataW.Whole enc Tryz.prog Tryz.f3.params.toList Rows.nodeNamesSpec.vars false W args.toList ds gs before) :
  Calls Tryz.prog 3 args W fun e W'=>∃ v,e=.returned v∧Rows.nodeNamesSpec.post enc Tryz.prog Tryz.f3 false true false false W args v W':=by
 have hW':=hW
 obtain ⟨p,q,hA0,hV,rfl,hfz,hnd⟩:=hW
 have hA:DataW.TrodAll enc Tryz.prog W 0 (fun _=>true) true Tryz.f3.params.toList args.toList ds p:=hA0
 rw [Tryz.params3] at hA hval
 obtain ⟨rfl,rfl,rfl⟩:=trodAll_none hA
 obtain ⟨rfl,rfl⟩:=trodVars_none hV
 refine (A9S Tryz.func3 rfl (by kernel_rfl) (B3 follows C5 C1w) law_run (w:=W) .nil).mono fun e W' ⟨he,hs⟩=>?_
 subst he
 exact ⟨_,rfl,B49 D9i (by kernel_rfl) hW' hs rfl (t:=4) (by kernel_rfl) Tryz.underlying4 rfl⟩
theorem lifted (os:Os) (started:os.Started) (H:Type) (enc:TypeId×Value→H) :
  ReturnsInHanded {} Tryz.checked os 3 .any (Rows.nodeNamesSpec.pre6 enc Tryz.prog Tryz.f3 Rows.nodeNamesRow.domain false) (Rows.nodeNamesSpec.post enc Tryz.prog Tryz.f3 false true false false):=by
 refine returnsInHanded_of_change (C:=Tryz.checked) own started (by kernel_rfl) Tryz.func3
  (ChangeSpec.witness6 (enc:=enc) (C:=Tryz.checked) false ⟨#[],#[],[]⟩ 8 (by kernel_rfl) (by kernel_rfl) (by kernel_rfl) (by kernel_rfl)) ?_
 intro W T4 args ds gs before hval hW _ _
 exact contract H enc W T4 args ds gs before hval hW
theorem g1:Tryz.pinned.checked.prog.funcNamed Rows.nodeNamesRow.func=some 3:=by kernel_rfl
theorem clo:Program.closure Tryz.pinned.checked.prog 3=[3,4,6,5,18,50,100,195,297,362,303,9,304,366,305,111,109,154,110,155,271,354,398,201,52,108,254,337,390,338,391,421,423,447,422,339,248,363,364,115,205,196,298,113,220,277,158,116,197,301,302,214,313,299,365,300,244,217,101,198,163,102,199,200,202,203,306,367,307,308,204,51,103,206,207,226,152,269,270,139,59,140,255,340,309,123,228,229,230,231,316,232,125,233,317,323,374,368,106,218,276,219,208,104,209,53,112,114,221,156,222,132,240,130,235,318,319,370,405,371,320,373,408,372,406,440,407,332,386,441,460,466,497,461,494,462,414,415,463,495,496,524,464,465,467,468,56,124,126,210,310,314,211,311,212,312,369,213,243,326,327,328,146,105,215,246,216,107,19,20,11,12,26,27,70,47,94,46,95,96,97,85,186,293,294,295,296,68,45,69,170,282,183,283,184,42,93,172,92,171,284,13,28,71,72,30,173,176,288,178,289,361,290,174,180,175,285,179,77,286,359,358,402,436,437,438,403,439,457,458,177,459,492,511,531,514,535,558,534,523,541,560,533,519,532,557,536,537,559,518,493,512,513,515,516,520,521,517,538,539,540,522,542,287,75,360,404,33,80,78,79,181,182,291,81,29,31,73,74,76,32,34,82,83,185,292,84,36,35,37,86,14,15,38,87,187,88,188,89,189,190,191,192,90,193,39,40,91,41,43,44,7,21,22,54,117,118,223,119,224,121,120,225,315,55,122,49,227,57,127,99,194,98,128,17,58,129,234,131,236,321,322,239,143,257,341,258,279,237,238,133,241,242,147,145,259,324,375,409,442,443,344,393,424,425,448,426,449,427,345,450,428,325,376,410,411,264,162,150,265,266,350,396,349,395,429,451,452,477,478,501,526,430,454,453,481,506,482,479,480,502,431,503,432,504,505,527,543,544,561,546,555,556,563,547,564,545,562,548,528,529,549,552,550,565,551,553,554,566,567,569,568,571,570,268,267,351,352,397,278,355,399,356,353,412,263,262,136,137,250,333,388,420,387,418,445,419,446,469,470,498,471,472,499,500,525,473,474,475,476,389,251,164,334,357,401,435,400,433,455,434,456,483,489,510,484,507,485,486,508,509,530,487,488,490,491,336,335,166,252,253,249,331,378,379,413,380,381,416,417,444,382,383,384,385,247,135,134,245,329,377,330,138,60,141,48,62,63,144,61,142,256,65,148,64,260,343,342,392,261,281,346,347,348,394,149,151,153,23,24,66,157,159,272,67,160,273,161,275,274,165,167,168,280,169,16,8,10,25]:=by kernel_rfl
theorem j0:(fun (P:Program) (f:FuncId) (fn:Func) (s:ChangeSpec) (c:OpenClaim)=>(c.wf (OpenSpec.ofChange s):Bool)) Tryz.pinned.checked.prog 3 Tryz.f3 Rows.nodeNamesSpec Rows.nodeNamesRow=true:=by kernel_rfl
theorem j1:(fun (P:Program) (f:FuncId) (fn:Func) (s:ChangeSpec) (c:OpenClaim)=>(laidOutB P:Bool)) Tryz.pinned.checked.prog 3 Tryz.f3 Rows.nodeNamesSpec Rows.nodeNamesRow=true:=by kernel_rfl
theorem j2:(fun (P:Program) (f:FuncId) (fn:Func) (s:ChangeSpec) (c:OpenClaim)=>(mapsRowed P:Bool)) Tryz.pinned.checked.prog 3 Tryz.f3 Rows.nodeNamesSpec Rows.nodeNamesRow=true:=by kernel_rfl
theorem j3:(fun (P:Program) (f:FuncId) (fn:Func) (s:ChangeSpec) (c:OpenClaim)=>(fn.params.all (P.readableRec ·):Bool)) Tryz.pinned.checked.prog 3 Tryz.f3 Rows.nodeNamesSpec Rows.nodeNamesRow=true:=by kernel_rfl
theorem j4:(fun (P:Program) (f:FuncId) (fn:Func) (s:ChangeSpec) (c:OpenClaim)=>(namedTie P c.named s.vars:Bool)) Tryz.pinned.checked.prog 3 Tryz.f3 Rows.nodeNamesSpec Rows.nodeNamesRow=true:=by kernel_rfl
theorem j5:(fun (P:Program) (f:FuncId) (fn:Func) (s:ChangeSpec) (c:OpenClaim)=>((c.stops == []):Bool)) Tryz.pinned.checked.prog 3 Tryz.f3 Rows.nodeNamesSpec Rows.nodeNamesRow=true:=by kernel_rfl
theorem j6:(fun (P:Program) (f:FuncId) (fn:Func) (s:ChangeSpec) (c:OpenClaim)=>((P.stops == []):Bool)) Tryz.pinned.checked.prog 3 Tryz.f3 Rows.nodeNamesSpec Rows.nodeNamesRow=true:=by kernel_rfl
theorem j7:(fun (P:Program) (f:FuncId) (fn:Func) (s:ChangeSpec) (c:OpenClaim)=>((c.knobs == []):Bool)) Tryz.pinned.checked.prog 3 Tryz.f3 Rows.nodeNamesSpec Rows.nodeNamesRow=true:=by kernel_rfl
theorem j8:(fun (P:Program) (f:FuncId) (fn:Func) (s:ChangeSpec) (c:OpenClaim)=>((P.stopKnobs == []):Bool)) Tryz.pinned.checked.prog 3 Tryz.f3 Rows.nodeNamesSpec Rows.nodeNamesRow=true:=by kernel_rfl
theorem j9:(Rows.nodeNamesRow.inPlace == Program.inPlace Tryz.pinned.checked.prog 3)=true:=by
 unfold Program.inPlace;rw [clo];kernel_rfl
theorem j10:(Rows.nodeNamesRow.unfollowed == Program.unfollowed Tryz.pinned.checked.prog 3)=true:=by
 unfold Program.unfollowed;rw [clo];kernel_rfl
theorem j11:(Rows.nodeNamesRow.recurses == Program.recurses Tryz.pinned.checked.prog 3)=true:=by
 unfold Program.recurses Program.unfollowed;rw [clo];kernel_rfl
theorem j12:(Rows.nodeNamesRow.named == Program.varsNamed Tryz.pinned.checked.prog 3)=true:=by
 unfold Program.varsNamed;rw [clo];kernel_rfl
theorem j13:(fun (P:Program) (f:FuncId) (fn:Func) (s:ChangeSpec) (c:OpenClaim)=>((c.maps == (fn.params.toList++s.plain.varTypes P).any (P.mapsRec ·)):Bool)) Tryz.pinned.checked.prog 3 Tryz.f3 Rows.nodeNamesSpec Rows.nodeNamesRow=true:=by kernel_rfl
theorem j14:(fun (P:Program) (f:FuncId) (fn:Func) (s:ChangeSpec) (c:OpenClaim)=>((c.ifaces == (fn.params.toList++s.plain.varTypes P).any (P.ifacesRec ·)):Bool)) Tryz.pinned.checked.prog 3 Tryz.f3 Rows.nodeNamesSpec Rows.nodeNamesRow=true:=by kernel_rfl
theorem j15:(fun (P:Program) (f:FuncId) (fn:Func) (s:ChangeSpec) (c:OpenClaim)=>((c.mapsOut == P.mapsAmong fn.resultTypes.toList):Bool)) Tryz.pinned.checked.prog 3 Tryz.f3 Rows.nodeNamesSpec Rows.nodeNamesRow=true:=by kernel_rfl
theorem j16:(fun (P:Program) (f:FuncId) (fn:Func) (s:ChangeSpec) (c:OpenClaim)=>((c.loops == (fn.params.toList++s.plain.varTypes P).any (P.loopsFrom ·)):Bool)) Tryz.pinned.checked.prog 3 Tryz.f3 Rows.nodeNamesSpec Rows.nodeNamesRow=true:=by kernel_rfl
theorem j17:(fun (P:Program) (f:FuncId) (fn:Func) (s:ChangeSpec) (c:OpenClaim)=>((c.wideKeys == (fn.params.toList++s.plain.varTypes P++fn.resultTypes.toList).any (P.wideKeysFrom ·)):Bool)) Tryz.pinned.checked.prog 3 Tryz.f3 Rows.nodeNamesSpec Rows.nodeNamesRow=true:=by kernel_rfl
theorem j18:(fun (P:Program) (f:FuncId) (fn:Func) (s:ChangeSpec) (c:OpenClaim)=>(s.vars.all (P.varReadable ·):Bool)) Tryz.pinned.checked.prog 3 Tryz.f3 Rows.nodeNamesSpec Rows.nodeNamesRow=true:=by kernel_rfl
theorem j19:(fun (P:Program) (f:FuncId) (fn:Func) (s:ChangeSpec) (c:OpenClaim)=>(fn.resultTypes.all (fun t=>P.readableRec t&&decide (t < P.types.size)):Bool)) Tryz.pinned.checked.prog 3 Tryz.f3 Rows.nodeNamesSpec Rows.nodeNamesRow=true:=by kernel_rfl
theorem j20:(fun (P:Program) (f:FuncId) (fn:Func) (s:ChangeSpec) (c:OpenClaim)=>((c.ifacesOut == fn.resultTypes.toList.any (P.ifacesRec ·)):Bool)) Tryz.pinned.checked.prog 3 Tryz.f3 Rows.nodeNamesSpec Rows.nodeNamesRow=true:=by kernel_rfl
theorem j21:(fun (P:Program) (f:FuncId) (fn:Func) (s:ChangeSpec) (c:OpenClaim)=>((c.loopsOut == fn.resultTypes.toList.any (P.loopsFrom ·)):Bool)) Tryz.pinned.checked.prog 3 Tryz.f3 Rows.nodeNamesSpec Rows.nodeNamesRow=true:=by kernel_rfl
theorem j22:(fun (P:Program) (f:FuncId) (fn:Func) (s:ChangeSpec) (c:OpenClaim)=>((c.plainKeys == P.plainKeys):Bool)) Tryz.pinned.checked.prog 3 Tryz.f3 Rows.nodeNamesSpec Rows.nodeNamesRow=true:=by kernel_rfl
theorem j23:(fun (P:Program) (f:FuncId) (fn:Func) (s:ChangeSpec) (c:OpenClaim)=>(c.shortTexts.isNone:Bool)) Tryz.pinned.checked.prog 3 Tryz.f3 Rows.nodeNamesSpec Rows.nodeNamesRow=true:=by kernel_rfl
theorem j24:(fun (P:Program) (f:FuncId) (fn:Func) (s:ChangeSpec) (c:OpenClaim)=>(P.stopsHeard:Bool)) Tryz.pinned.checked.prog 3 Tryz.f3 Rows.nodeNamesSpec Rows.nodeNamesRow=true:=by kernel_rfl
theorem j25:(fun (P:Program) (f:FuncId) (fn:Func) (s:ChangeSpec) (c:OpenClaim)=>(P.mayEnter:Bool)) Tryz.pinned.checked.prog 3 Tryz.f3 Rows.nodeNamesSpec Rows.nodeNamesRow=true:=by kernel_rfl
theorem j26:(fun (P:Program) (f:FuncId) (fn:Func) (s:ChangeSpec) (c:OpenClaim)=>((c.lifted == P.liftsFinal):Bool)) Tryz.pinned.checked.prog 3 Tryz.f3 Rows.nodeNamesSpec Rows.nodeNamesRow=true:=by kernel_rfl
theorem j27:(fun (P:Program) (f:FuncId) (fn:Func) (s:ChangeSpec) (c:OpenClaim)=>((P.make == some c.make):Bool)) Tryz.pinned.checked.prog 3 Tryz.f3 Rows.nodeNamesSpec Rows.nodeNamesRow=true:=by kernel_rfl
theorem j28:(fun (P:Program) (f:FuncId) (fn:Func) (s:ChangeSpec) (c:OpenClaim)=>((c.kinds == (if c.domain.isEmpty then [] else fn.params.toList.map fun t=>match P.underlying t with | some (.int k)=>some k | _=>none)):Bool)) Tryz.pinned.checked.prog 3 Tryz.f3 Rows.nodeNamesSpec Rows.nodeNamesRow=true:=by kernel_rfl
theorem j29:(fun (P:Program) (f:FuncId) (fn:Func) (s:ChangeSpec) (c:OpenClaim)=>((c.pinned == c.pinnedBy):Bool)) Tryz.pinned.checked.prog 3 Tryz.f3 Rows.nodeNamesSpec Rows.nodeNamesRow=true:=by kernel_rfl
theorem j30:(fun (P:Program) (f:FuncId) (fn:Func) (s:ChangeSpec) (c:OpenClaim)=>((c.veiled == (fn.params.toList++s.plain.varTypes P++fn.resultTypes.toList).any (P.veiledRec ·)):Bool)) Tryz.pinned.checked.prog 3 Tryz.f3 Rows.nodeNamesSpec Rows.nodeNamesRow=true:=by kernel_rfl
theorem j31:(fun (P:Program) (f:FuncId) (fn:Func) (s:ChangeSpec) (c:OpenClaim)=>(c.veiledFits P fn.params.toList (fn.params.toList++s.plain.varTypes P++fn.resultTypes.toList):Bool)) Tryz.pinned.checked.prog 3 Tryz.f3 Rows.nodeNamesSpec Rows.nodeNamesRow=true:=by kernel_rfl
theorem F5 {a b:Bool} (h:a=true) (h':b=true):(a&&b)=true:=by rw [h,h'];rfl
theorem g2:joinedFacts Tryz.pinned.checked.prog 3 Tryz.f3 Rows.nodeNamesSpec Rows.nodeNamesRow=true:=by
 unfold joinedFacts
 exact (F5 (F5 (F5 (F5 (F5 (F5 (F5 (F5 (F5 (F5 (F5 (F5 (F5 (F5 (F5 (F5 (F5 (F5 (F5 (F5 (F5 (F5 (F5 (F5 (F5 (F5 (F5 (F5 (F5 (F5 (F5 j0 j1) j2) j3) j4) j5) j6) j7) j8) j9) j10) j11) j12) j13) j14) j15) j16) j17) j18) j19) j20) j21) j22) j23) j24) j25) j26) j27) j28) j29) j30) j31)
theorem g3:Func.isInstance Tryz.pinned.checked.prog Tryz.f3 Rows.nodeNamesRow.origin Rows.nodeNamesRow.targs:=of_decide_eq_true (by kernel_rfl)
theorem g4:Func.isWrapper Tryz.pinned.checked.prog Tryz.f3 Rows.nodeNamesRow.wrapper Rows.nodeNamesRow.mainSum:=by
 unfold Func.isWrapper;first | (rw [if_pos (by decide +kernel)];kernel_rfl) | (rw [if_neg (by decide +kernel)];exact ⟨rfl,rfl⟩)
theorem proved:Rows.NodeNamesSaid :=
 OpenClaim.holds_of_wide 3 Tryz.f3 rfl rfl rfl rfl rfl rfl rfl ⟨rfl,rfl,rfl,rfl,rfl⟩ rfl rfl rfl rfl rfl g1 Tryz.func3 g2 g3 g4 (fun os started H enc _=>lifted os started H enc)
end Go.Proofs.YtgaghkafmeelhaaGreat.nodeNames
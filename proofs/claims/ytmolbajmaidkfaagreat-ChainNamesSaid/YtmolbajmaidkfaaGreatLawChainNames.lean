/- For every input the law ChainNames returns true and its arguments read as they did: no condition. -/
import Derived.Test.YtmolbajmaidkfaaGreatWalk3
import Derived.Test.YtmolbajmaidkfaaGreatRows
import Derived.WalkKit
import Derived.ProofKit
import Derived.OpenShut
import Derived.JoinedOf
set_option linter.constructorNameAsVariable false
set_option linter.unusedVariables false
set_option linter.unusedSimpArgs false
set_option linter.unnecessarySimpa false
namespace Go.Proofs.YtmolbajmaidkfaaGreat.chainNames
open Go.Vm Go.ChangeShapes Go.WideShapes Go.ChangeAt Go.RowKit
set_option linter.unusedVariables false
set_option maxRecDepth 100000
theorem own:ownKnob Tryz.prog.godebug=none:=by kernel_rfl
def R:List TypeId:=[]
theorem E1d:A5a Tryz.prog R=true:=by kernel_rfl
theorem contract (H:Type) (enc:TypeId×Value→H) (W:World) (S6:Nat) (args:Array Value) (ds gs:List (DataW H)) (before:List MemPlace)
  (hval:∀ (j:Nat) t v,Tryz.f3.params[j]? = some t→args[j]? = some v→Value.okWide Tryz.prog W .any S6 t v)
  (hW:DataW.Whole enc Tryz.prog Tryz.f3.params.toList Rows.chainNamesSpec.vars false W args.toList ds gs before) :
  Calls Tryz.prog 3 args W fun e W'=>∃ v,e=.returned v∧Rows.chainNamesSpec.post enc Tryz.prog Tryz.f3 false true false false W args v W':=by
 have hW':=hW
 obtain ⟨p,q,hA0,hV,rfl,hfz,hnd⟩:=hW
 have hA:DataW.TrodAll enc Tryz.prog W 0 (fun _=>true) true Tryz.f3.params.toList args.toList ds p:=hA0
 rw [Tryz.params3] at hA hval
 obtain ⟨rfl,rfl,rfl⟩:=trodAll_none hA
 obtain ⟨rfl,rfl⟩:=trodVars_none hV
 refine (A8F Tryz.func3 rfl (by kernel_rfl) (B3 follows D0 B9c) law_run (w:=W) .nil).mono fun e W' ⟨he,hs⟩=>?_
 subst he
 exact ⟨_,rfl,B4O E1d (by kernel_rfl) hW' hs rfl (t:=4) (by kernel_rfl) Tryz.underlying4 rfl⟩
theorem lifted (os:Os) (started:os.Started) (H:Type) (enc:TypeId×Value→H) :
  ReturnsInHanded {} Tryz.checked os 3 .any (Rows.chainNamesSpec.pre6 enc Tryz.prog Tryz.f3 Rows.chainNamesRow.domain false) (Rows.chainNamesSpec.post enc Tryz.prog Tryz.f3 false true false false):=by
 refine returnsInHanded_of_change (C:=Tryz.checked) own started (by kernel_rfl) Tryz.func3
  (ChangeSpec.witness6 (enc:=enc) (C:=Tryz.checked) false ⟨#[],#[],[]⟩ 8 (by kernel_rfl) (by kernel_rfl) (by kernel_rfl) (by kernel_rfl)) ?_
 intro W S6 args ds gs before hval hW _ _
 exact contract H enc W S6 args ds gs before hval hW
theorem g1:Tryz.pinned.checked.prog.funcNamed Rows.chainNamesRow.func=some 3:=by kernel_rfl
theorem clo:Program.closure Tryz.pinned.checked.prog 3=[3,4,6,5,19,63,143,243,310,204,280,248,314,249,73,107,169,259,170,258,317,343,148,177,260,215,296,337,297,338,362,364,395,363,298,104,311,312,77,152,144,244,75,171,176,174,78,145,247,203,160,256,245,313,246,99,163,64,79,146,65,147,100,149,150,250,315,251,252,151,20,66,153,154,184,81,179,180,111,37,80,178,261,196,188,265,271,272,273,291,267,95,197,277,195,276,264,69,164,257,165,94,67,155,25,74,76,172,173,175,30,93,28,86,185,186,266,318,268,187,270,321,269,319,344,320,208,290,345,368,374,403,369,400,370,328,329,371,401,402,428,372,373,375,376,87,189,190,156,253,262,157,254,158,255,316,159,98,201,202,54,134,68,161,102,162,70,13,48,7,21,71,129,139,166,167,168,49,128,232,233,234,235,14,50,127,226,306,228,307,229,60,142,231,141,227,308,12,38,112,113,40,216,219,302,221,303,342,304,217,223,218,299,222,118,300,340,339,365,396,397,398,366,399,425,426,220,427,443,451,470,454,474,489,473,463,480,491,472,459,471,488,475,476,490,458,444,452,453,455,456,460,461,457,477,478,479,462,481,301,116,341,367,43,121,119,120,224,225,305,122,39,41,114,115,117,42,44,123,124,230,309,125,46,45,47,126,11,16,53,26,27,82,181,83,182,85,84,183,263,29,88,191,194,92,89,192,274,193,275,90,91,31,96,97,198,24,72,199,278,322,346,347,349,379,404,405,429,406,430,407,377,431,408,200,22,279,323,324,348,378,325,350,351,381,410,380,409,432,445,446,464,465,482,492,433,448,447,468,487,469,466,467,483,434,484,435,485,486,493,496,497,510,499,508,509,512,500,513,498,511,501,494,495,502,505,503,514,504,506,507,515,516,518,517,520,519,353,352,382,383,411,412,436,449,437,384,326,354,355,34,35,106,209,293,334,292,332,357,333,358,385,386,413,387,388,414,415,438,389,390,391,392,294,108,210,211,295,336,361,335,359,393,360,394,416,422,442,417,439,418,419,440,441,450,420,421,423,424,213,212,214,109,110,105,207,282,283,327,284,285,330,331,356,286,287,288,289,103,33,32,101,205,281,206,36,18,56,55,135,236,136,237,137,238,239,240,241,138,242,57,58,140,59,61,62,8,9,23,10,15,51,52,130,131,132,133,17]:=by kernel_rfl
theorem j0:(fun (P:Program) (f:FuncId) (fn:Func) (s:ChangeSpec) (c:OpenClaim)=>(c.wf (OpenSpec.ofChange s):Bool)) Tryz.pinned.checked.prog 3 Tryz.f3 Rows.chainNamesSpec Rows.chainNamesRow=true:=by kernel_rfl
theorem j1:(fun (P:Program) (f:FuncId) (fn:Func) (s:ChangeSpec) (c:OpenClaim)=>(laidOutB P:Bool)) Tryz.pinned.checked.prog 3 Tryz.f3 Rows.chainNamesSpec Rows.chainNamesRow=true:=by kernel_rfl
theorem j2:(fun (P:Program) (f:FuncId) (fn:Func) (s:ChangeSpec) (c:OpenClaim)=>(mapsRowed P:Bool)) Tryz.pinned.checked.prog 3 Tryz.f3 Rows.chainNamesSpec Rows.chainNamesRow=true:=by kernel_rfl
theorem j3:(fun (P:Program) (f:FuncId) (fn:Func) (s:ChangeSpec) (c:OpenClaim)=>(fn.params.all (P.readableRec ·):Bool)) Tryz.pinned.checked.prog 3 Tryz.f3 Rows.chainNamesSpec Rows.chainNamesRow=true:=by kernel_rfl
theorem j4:(fun (P:Program) (f:FuncId) (fn:Func) (s:ChangeSpec) (c:OpenClaim)=>(namedTie P c.named s.vars:Bool)) Tryz.pinned.checked.prog 3 Tryz.f3 Rows.chainNamesSpec Rows.chainNamesRow=true:=by kernel_rfl
theorem j5:(fun (P:Program) (f:FuncId) (fn:Func) (s:ChangeSpec) (c:OpenClaim)=>((c.stops == []):Bool)) Tryz.pinned.checked.prog 3 Tryz.f3 Rows.chainNamesSpec Rows.chainNamesRow=true:=by kernel_rfl
theorem j6:(fun (P:Program) (f:FuncId) (fn:Func) (s:ChangeSpec) (c:OpenClaim)=>((P.stops == []):Bool)) Tryz.pinned.checked.prog 3 Tryz.f3 Rows.chainNamesSpec Rows.chainNamesRow=true:=by kernel_rfl
theorem j7:(fun (P:Program) (f:FuncId) (fn:Func) (s:ChangeSpec) (c:OpenClaim)=>((c.knobs == []):Bool)) Tryz.pinned.checked.prog 3 Tryz.f3 Rows.chainNamesSpec Rows.chainNamesRow=true:=by kernel_rfl
theorem j8:(fun (P:Program) (f:FuncId) (fn:Func) (s:ChangeSpec) (c:OpenClaim)=>((P.stopKnobs == []):Bool)) Tryz.pinned.checked.prog 3 Tryz.f3 Rows.chainNamesSpec Rows.chainNamesRow=true:=by kernel_rfl
theorem j9:(Rows.chainNamesRow.inPlace == Program.inPlace Tryz.pinned.checked.prog 3)=true:=by
 unfold Program.inPlace;rw [clo];kernel_rfl
theorem j10:(Rows.chainNamesRow.unfollowed == Program.unfollowed Tryz.pinned.checked.prog 3)=true:=by
 unfold Program.unfollowed;rw [clo];kernel_rfl
theorem j11:(Rows.chainNamesRow.recurses == Program.recurses Tryz.pinned.checked.prog 3)=true:=by
 unfold Program.recurses Program.unfollowed;rw [clo];kernel_rfl
theorem j12:(Rows.chainNamesRow.named == Program.varsNamed Tryz.pinned.checked.prog 3)=true:=by
 unfold Program.varsNamed;rw [clo];kernel_rfl
theorem j13:(fun (P:Program) (f:FuncId) (fn:Func) (s:ChangeSpec) (c:OpenClaim)=>((c.maps == (fn.params.toList++s.plain.varTypes P).any (P.mapsRec ·)):Bool)) Tryz.pinned.checked.prog 3 Tryz.f3 Rows.chainNamesSpec Rows.chainNamesRow=true:=by kernel_rfl
theorem j14:(fun (P:Program) (f:FuncId) (fn:Func) (s:ChangeSpec) (c:OpenClaim)=>((c.ifaces == (fn.params.toList++s.plain.varTypes P).any (P.ifacesRec ·)):Bool)) Tryz.pinned.checked.prog 3 Tryz.f3 Rows.chainNamesSpec Rows.chainNamesRow=true:=by kernel_rfl
theorem j15:(fun (P:Program) (f:FuncId) (fn:Func) (s:ChangeSpec) (c:OpenClaim)=>((c.mapsOut == P.mapsAmong fn.resultTypes.toList):Bool)) Tryz.pinned.checked.prog 3 Tryz.f3 Rows.chainNamesSpec Rows.chainNamesRow=true:=by kernel_rfl
theorem j16:(fun (P:Program) (f:FuncId) (fn:Func) (s:ChangeSpec) (c:OpenClaim)=>((c.loops == (fn.params.toList++s.plain.varTypes P).any (P.loopsFrom ·)):Bool)) Tryz.pinned.checked.prog 3 Tryz.f3 Rows.chainNamesSpec Rows.chainNamesRow=true:=by kernel_rfl
theorem j17:(fun (P:Program) (f:FuncId) (fn:Func) (s:ChangeSpec) (c:OpenClaim)=>((c.wideKeys == (fn.params.toList++s.plain.varTypes P++fn.resultTypes.toList).any (P.wideKeysFrom ·)):Bool)) Tryz.pinned.checked.prog 3 Tryz.f3 Rows.chainNamesSpec Rows.chainNamesRow=true:=by kernel_rfl
theorem j18:(fun (P:Program) (f:FuncId) (fn:Func) (s:ChangeSpec) (c:OpenClaim)=>(s.vars.all (P.varReadable ·):Bool)) Tryz.pinned.checked.prog 3 Tryz.f3 Rows.chainNamesSpec Rows.chainNamesRow=true:=by kernel_rfl
theorem j19:(fun (P:Program) (f:FuncId) (fn:Func) (s:ChangeSpec) (c:OpenClaim)=>(fn.resultTypes.all (fun t=>P.readableRec t&&decide (t < P.types.size)):Bool)) Tryz.pinned.checked.prog 3 Tryz.f3 Rows.chainNamesSpec Rows.chainNamesRow=true:=by kernel_rfl
theorem j20:(fun (P:Program) (f:FuncId) (fn:Func) (s:ChangeSpec) (c:OpenClaim)=>((c.ifacesOut == fn.resultTypes.toList.any (P.ifacesRec ·)):Bool)) Tryz.pinned.checked.prog 3 Tryz.f3 Rows.chainNamesSpec Rows.chainNamesRow=true:=by kernel_rfl
theorem j21:(fun (P:Program) (f:FuncId) (fn:Func) (s:ChangeSpec) (c:OpenClaim)=>((c.loopsOut == fn.resultTypes.toList.any (P.loopsFrom ·)):Bool)) Tryz.pinned.checked.prog 3 Tryz.f3 Rows.chainNamesSpec Rows.chainNamesRow=true:=by kernel_rfl
theorem j22:(fun (P:Program) (f:FuncId) (fn:Func) (s:ChangeSpec) (c:OpenClaim)=>((c.plainKeys == P.plainKeys):Bool)) Tryz.pinned.checked.prog 3 Tryz.f3 Rows.chainNamesSpec Rows.chainNamesRow=true:=by kernel_rfl
theorem j23:(fun (P:Program) (f:FuncId) (fn:Func) (s:ChangeSpec) (c:OpenClaim)=>(c.shortTexts.isNone:Bool)) Tryz.pinned.checked.prog 3 Tryz.f3 Rows.chainNamesSpec Rows.chainNamesRow=true:=by kernel_rfl
theorem j24:(fun (P:Program) (f:FuncId) (fn:Func) (s:ChangeSpec) (c:OpenClaim)=>(P.stopsHeard:Bool)) Tryz.pinned.checked.prog 3 Tryz.f3 Rows.chainNamesSpec Rows.chainNamesRow=true:=by kernel_rfl
theorem j25:(fun (P:Program) (f:FuncId) (fn:Func) (s:ChangeSpec) (c:OpenClaim)=>(P.mayEnter:Bool)) Tryz.pinned.checked.prog 3 Tryz.f3 Rows.chainNamesSpec Rows.chainNamesRow=true:=by kernel_rfl
theorem j26:(fun (P:Program) (f:FuncId) (fn:Func) (s:ChangeSpec) (c:OpenClaim)=>((c.lifted == P.liftsFinal):Bool)) Tryz.pinned.checked.prog 3 Tryz.f3 Rows.chainNamesSpec Rows.chainNamesRow=true:=by kernel_rfl
theorem j27:(fun (P:Program) (f:FuncId) (fn:Func) (s:ChangeSpec) (c:OpenClaim)=>((P.make == some c.make):Bool)) Tryz.pinned.checked.prog 3 Tryz.f3 Rows.chainNamesSpec Rows.chainNamesRow=true:=by kernel_rfl
theorem j28:(fun (P:Program) (f:FuncId) (fn:Func) (s:ChangeSpec) (c:OpenClaim)=>((c.kinds == (if c.domain.isEmpty then [] else fn.params.toList.map fun t=>match P.underlying t with | some (.int k)=>some k | _=>none)):Bool)) Tryz.pinned.checked.prog 3 Tryz.f3 Rows.chainNamesSpec Rows.chainNamesRow=true:=by kernel_rfl
theorem j29:(fun (P:Program) (f:FuncId) (fn:Func) (s:ChangeSpec) (c:OpenClaim)=>((c.pinned == c.pinnedBy):Bool)) Tryz.pinned.checked.prog 3 Tryz.f3 Rows.chainNamesSpec Rows.chainNamesRow=true:=by kernel_rfl
theorem j30:(fun (P:Program) (f:FuncId) (fn:Func) (s:ChangeSpec) (c:OpenClaim)=>((c.veiled == (fn.params.toList++s.plain.varTypes P++fn.resultTypes.toList).any (P.veiledRec ·)):Bool)) Tryz.pinned.checked.prog 3 Tryz.f3 Rows.chainNamesSpec Rows.chainNamesRow=true:=by kernel_rfl
theorem j31:(fun (P:Program) (f:FuncId) (fn:Func) (s:ChangeSpec) (c:OpenClaim)=>(c.veiledFits P fn.params.toList (fn.params.toList++s.plain.varTypes P++fn.resultTypes.toList):Bool)) Tryz.pinned.checked.prog 3 Tryz.f3 Rows.chainNamesSpec Rows.chainNamesRow=true:=by kernel_rfl
theorem F4 {a b:Bool} (h:a=true) (h':b=true):(a&&b)=true:=by rw [h,h'];rfl
theorem g2:joinedFacts Tryz.pinned.checked.prog 3 Tryz.f3 Rows.chainNamesSpec Rows.chainNamesRow=true:=by
 unfold joinedFacts
 exact (F4 (F4 (F4 (F4 (F4 (F4 (F4 (F4 (F4 (F4 (F4 (F4 (F4 (F4 (F4 (F4 (F4 (F4 (F4 (F4 (F4 (F4 (F4 (F4 (F4 (F4 (F4 (F4 (F4 (F4 (F4 j0 j1) j2) j3) j4) j5) j6) j7) j8) j9) j10) j11) j12) j13) j14) j15) j16) j17) j18) j19) j20) j21) j22) j23) j24) j25) j26) j27) j28) j29) j30) j31)
theorem g3:Func.isInstance Tryz.pinned.checked.prog Tryz.f3 Rows.chainNamesRow.origin Rows.chainNamesRow.targs:=of_decide_eq_true (by kernel_rfl)
theorem g4:Func.isWrapper Tryz.pinned.checked.prog Tryz.f3 Rows.chainNamesRow.wrapper Rows.chainNamesRow.mainSum:=by
 unfold Func.isWrapper;first | (rw [if_pos (by decide +kernel)];kernel_rfl) | (rw [if_neg (by decide +kernel)];exact ⟨rfl,rfl⟩)
theorem proved:Rows.ChainNamesSaid :=
 OpenClaim.holds_of_wide 3 Tryz.f3 rfl rfl rfl rfl rfl rfl rfl ⟨rfl,rfl,rfl,rfl,rfl⟩ rfl rfl rfl rfl rfl g1 Tryz.func3 g2 g3 g4 (fun os started H enc _=>lifted os started H enc)
end Go.Proofs.YtmolbajmaidkfaaGreat.chainNames
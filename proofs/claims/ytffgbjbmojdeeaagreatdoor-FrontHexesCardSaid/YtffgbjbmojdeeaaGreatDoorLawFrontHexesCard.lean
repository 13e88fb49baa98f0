/- For every input the law FrontHexes returns true and its arguments read as they did: no condition. -/
import Derived.Test.YtffgbjbmojdeeaaGreatDoorWalk1
import Derived.Test.YtffgbjbmojdeeaaGreatDoorRows
import Derived.Test.YtffgbjbmojdeeaaGreatDoorTie
import Derived.Test.YtffgbjbmojdeeaaGreatDoorCards
import Derived.LaidMore
import Derived.Lay
import Derived.SevenTiedAt
import Derived.Stop.Joined
import Derived.WalkKit
import Derived.ProofKit
import Derived.OpenShut
import Derived.JoinedOf
set_option linter.constructorNameAsVariable false
set_option linter.unusedVariables false
set_option linter.unusedSimpArgs false
set_option linter.unnecessarySimpa false
namespace Go.Proofs.YtffgbjbmojdeeaaGreatDoor.frontHexes
open Go.Vm Go.ChangeShapes Go.WideShapes Go.ChangeAt Go.RowKit
set_option linter.unusedVariables false
set_option maxRecDepth 100000
theorem own:ownKnob Tryz.prog.godebug=none:=by kernel_rfl
def R:List TypeId:=[9,22,5]
theorem C3i:A3P Tryz.prog R=true:=by kernel_rfl
theorem contract (H:Type) (enc:TypeId×Value→H) (W:World) (L6:Nat) (args:Array Value) (ds gs:List (DataW H)) (before:List MemPlace)
  (hval:∀ (j:Nat) t v,Tryz.f3.params[j]? = some t→args[j]? = some v→Value.okWide Tryz.prog W .any L6 t v)
  (hW:DataW.Whole enc Tryz.prog Tryz.f3.params.toList Rows.frontHexesSpec.vars false W args.toList ds gs before) :
  Calls Tryz.prog 3 args W fun e W'=>∃ v,e=.returned v∧Rows.frontHexesSpec.post enc Tryz.prog Tryz.f3 false true false false W args v W':=by
 have hW':=hW
 obtain ⟨p,q,hA0,hV,rfl,hfz,hnd⟩:=hW
 have hA:DataW.TrodAll enc Tryz.prog W 0 (fun _=>true) true Tryz.f3.params.toList args.toList ds p:=hA0
 rw [Tryz.params3] at hA hval
 have ho:=B05 H4 [22,22,9] (n:=40) (Ds:=[.slice (.int .u8),.slice (.int .u8),.str]) args.toList (by kernel_rfl) hA (fun j t v h1 h2=>hval j t v (by simpa using h1) (by simpa using h2))
 obtain ⟨v0,vs0,d0,ds0,p0,q0,hargs,rfl,rfl,h0,r0⟩:=trodAll_cons hA
 obtain ⟨v1,vs1,d1,ds1,p1,q1,rfl,rfl,rfl,h1,r1⟩:=trodAll_cons r0
 obtain ⟨v2,vs2,d2,ds2,p2,q2,rfl,rfl,rfl,h2,r2⟩:=trodAll_cons r1
 obtain ⟨rfl,rfl,rfl⟩:=trodAll_nil r2
 obtain ⟨rfl,rfl⟩:=trodVars_none hV
 refine (B06 H4 Tryz.func3 rfl (by kernel_rfl) law_ok law_nat (ts:=[22,22,9]) (by kernel_rfl) 40 (Ds:=[.slice (.int .u8),.slice (.int .u8),.str]) (by kernel_rfl) law_run (w:=W) ho).mono fun e W' ⟨he,hs⟩=>?_
 subst he
 exact ⟨_,rfl,B2s C3i (by kernel_rfl) hW' hs rfl (t:=4) (by kernel_rfl) Tryz.underlying4 rfl⟩
noncomputable abbrev laid:List (String×DataW Unit):=Rows.frontHexesRow.laid
noncomputable def w0 (os:Os):World:=World.laidAll Tryz.prog os laid
noncomputable abbrev wa:Array Value:=#[.slice none 0 0,.slice none 0 0,.string ⟨#[]⟩]
theorem lifted (os:Os) (started:os.Started) (H:Type) (enc:TypeId×Value→H) :
  ReturnsInHanded {} Tryz.checked os 3 .any (fun w args=>(Rows.frontHexesSpec.pre enc Tryz.prog Tryz.f3 Rows.frontHexesRow.domain false w args∧laidMetH Tryz.prog laid w)∧sizedMet enc Tryz.prog Tryz.f3 (OpenSpec.ofChange Rows.frontHexesSpec) false w args)
   (Rows.frontHexesSpec.post enc Tryz.prog Tryz.f3 false true false false):=by
 refine returnsInHanded_of_change_and (C:=Tryz.checked) (X:=fun w _=>laidMetH Tryz.prog laid w) (fun _ _ _ hh h=>h.of_heap hh) own started (by kernel_rfl) Tryz.func3
  (ChangeSpec.witness_shaped (enc:=enc) (C:=Tryz.checked) (os:=os) (X:=fun w _=>laidMetH Tryz.prog laid w) false (World.laidAll Tryz.prog os laid) wa 8 (World.laidAll_os _ _ _)
   (World.shaped_of_ZipB (by kernel_rfl) (by kernel_rfl)) (by kernel_rfl) (by kernel_rfl) (by kernel_rfl)
   (by rw [MakeChecks.laidMetH_plain _ _ _ (by kernel_rfl)];exact laidMet_laidAll _ (by kernel_rfl) (by kernel_rfl))) ?_
 intro W L6 args ds gs before hval0 hW hc _ hL _
 exact contract H enc W L6 args ds gs before hval0 hW
theorem g1:Tryz.pinned.checked.prog.funcNamed Rows.frontHexesRow.func=some 3:=by kernel_rfl
theorem clo:Program.closure Tryz.pinned.checked.prog 3=[3,4,7,11,19,36,48,82,83,184,49,84,50,85,18,35,185,186,187,275,20,37,51,6,10,38,52,86,188,276,277,53,87,189,88,89,13,22,39,54,55,92,91,93,56,57,94,95,191,192,190,90,12,21,17,34,9,15,14,23,40,58,96,193,278,201,282,202,283,203,125,122,169,124,170,266,326,358,103,66,123,204,284,330,285,331,362,364,393,363,286,216,279,280,129,107,97,194,127,218,200,173,130,98,198,199,116,214,195,281,196,197,119,59,99,100,60,101,102,104,105,205,287,206,207,106,41,61,108,109,209,167,264,265,154,73,155,249,312,208,137,225,226,227,228,229,139,230,296,288,332,289,64,120,217,121,110,62,111,67,126,128,219,171,220,147,239,145,234,297,298,333,365,334,299,336,368,335,366,394,367,307,348,395,410,416,445,411,442,412,374,375,413,443,444,459,414,415,417,418,70,138,140,112,210,290,113,211,114,212,291,115,213,292,293,294,161,63,117,215,118,65,24,25,16,26,42,43,68,131,132,221,133,222,135,134,223,295,69,136,47,224,71,141,231,232,143,142,31,72,144,233,146,235,300,301,238,158,252,313,253,272,236,237,148,240,241,162,160,254,302,337,369,396,397,316,353,381,382,401,383,402,384,317,403,385,303,338,370,371,259,177,165,260,261,322,356,321,355,386,404,405,427,428,449,461,387,407,406,431,454,432,429,430,450,388,451,389,452,453,462,466,467,480,469,478,479,482,470,483,468,481,471,463,464,472,475,473,484,474,476,477,485,486,488,487,490,489,263,262,323,324,357,271,327,359,328,325,372,258,257,151,152,245,308,350,380,349,378,399,379,400,419,420,446,421,422,447,448,460,423,424,425,426,351,246,178,309,329,361,392,360,390,408,391,409,433,439,458,434,455,435,436,456,457,465,437,438,440,441,311,310,180,247,248,244,306,340,341,373,342,343,376,377,398,344,345,346,347,243,150,149,242,304,339,305,153,74,156,250,76,77,159,75,157,251,79,163,78,255,315,314,352,256,274,318,319,320,354,164,166,168,44,45,80,172,174,267,81,175,268,176,270,269,179,181,182,273,183,5,8,27,28,29,46,30,32,33]:=by kernel_rfl
theorem j0:(fun (P:Program) (f:FuncId) (fn:Func) (s:ChangeSpec) (c:OpenClaim)=>(c.wf (OpenSpec.ofChange s):Bool)) Tryz.pinned.checked.prog 3 Tryz.f3 Rows.frontHexesSpec Rows.frontHexesRow=true:=by kernel_rfl
theorem j1:(fun (P:Program) (f:FuncId) (fn:Func) (s:ChangeSpec) (c:OpenClaim)=>(laidOutB P:Bool)) Tryz.pinned.checked.prog 3 Tryz.f3 Rows.frontHexesSpec Rows.frontHexesRow=true:=by kernel_rfl
theorem j2:(fun (P:Program) (f:FuncId) (fn:Func) (s:ChangeSpec) (c:OpenClaim)=>(mapsRowed P:Bool)) Tryz.pinned.checked.prog 3 Tryz.f3 Rows.frontHexesSpec Rows.frontHexesRow=true:=by kernel_rfl
theorem j3:(fun (P:Program) (f:FuncId) (fn:Func) (s:ChangeSpec) (c:OpenClaim)=>(fn.params.all (P.readableRec ·):Bool)) Tryz.pinned.checked.prog 3 Tryz.f3 Rows.frontHexesSpec Rows.frontHexesRow=true:=by kernel_rfl
theorem j4:(fun (P:Program) (f:FuncId) (fn:Func) (s:ChangeSpec) (c:OpenClaim)=>(namedTie P c.named s.vars:Bool)) Tryz.pinned.checked.prog 3 Tryz.f3 Rows.frontHexesSpec Rows.frontHexesRow=true:=by kernel_rfl
theorem j5:(fun (P:Program) (f:FuncId) (fn:Func) (s:ChangeSpec) (c:OpenClaim)=>((c.stops == []):Bool)) Tryz.pinned.checked.prog 3 Tryz.f3 Rows.frontHexesSpec Rows.frontHexesRow=true:=by kernel_rfl
theorem j6:(fun (P:Program) (f:FuncId) (fn:Func) (s:ChangeSpec) (c:OpenClaim)=>((P.stops == []):Bool)) Tryz.pinned.checked.prog 3 Tryz.f3 Rows.frontHexesSpec Rows.frontHexesRow=true:=by kernel_rfl
theorem j7:(fun (P:Program) (f:FuncId) (fn:Func) (s:ChangeSpec) (c:OpenClaim)=>((c.knobs == []):Bool)) Tryz.pinned.checked.prog 3 Tryz.f3 Rows.frontHexesSpec Rows.frontHexesRow=true:=by kernel_rfl
theorem j8:(fun (P:Program) (f:FuncId) (fn:Func) (s:ChangeSpec) (c:OpenClaim)=>((P.stopKnobs == []):Bool)) Tryz.pinned.checked.prog 3 Tryz.f3 Rows.frontHexesSpec Rows.frontHexesRow=true:=by kernel_rfl
theorem j9:(Rows.frontHexesRow.inPlace == Program.inPlace Tryz.pinned.checked.prog 3)=true:=by
 unfold Program.inPlace;rw [clo];kernel_rfl
theorem j10:(Rows.frontHexesRow.unfollowed == Program.unfollowed Tryz.pinned.checked.prog 3)=true:=by
 unfold Program.unfollowed;rw [clo];kernel_rfl
theorem j11:(Rows.frontHexesRow.recurses == Program.recurses Tryz.pinned.checked.prog 3)=true:=by
 unfold Program.recurses Program.unfollowed;rw [clo];kernel_rfl
theorem j12:(Rows.frontHexesRow.named == Program.varsNamed Tryz.pinned.checked.prog 3)=true:=by
 unfold Program.varsNamed;rw [clo];kernel_rfl
theorem j13:(fun (P:Program) (f:FuncId) (fn:Func) (s:ChangeSpec) (c:OpenClaim)=>((c.maps == (fn.params.toList++s.plain.varTypes P).any (P.mapsRec ·)):Bool)) Tryz.pinned.checked.prog 3 Tryz.f3 Rows.frontHexesSpec Rows.frontHexesRow=true:=by kernel_rfl
theorem j14:(fun (P:Program) (f:FuncId) (fn:Func) (s:ChangeSpec) (c:OpenClaim)=>((c.ifaces == (fn.params.toList++s.plain.varTypes P).any (P.ifacesRec ·)):Bool)) Tryz.pinned.checked.prog 3 Tryz.f3 Rows.frontHexesSpec Rows.frontHexesRow=true:=by kernel_rfl
theorem j15:(fun (P:Program) (f:FuncId) (fn:Func) (s:ChangeSpec) (c:OpenClaim)=>((c.mapsOut == P.mapsAmong fn.resultTypes.toList):Bool)) Tryz.pinned.checked.prog 3 Tryz.f3 Rows.frontHexesSpec Rows.frontHexesRow=true:=by kernel_rfl
theorem j16:(fun (P:Program) (f:FuncId) (fn:Func) (s:ChangeSpec) (c:OpenClaim)=>((c.loops == (fn.params.toList++s.plain.varTypes P).any (P.loopsFrom ·)):Bool)) Tryz.pinned.checked.prog 3 Tryz.f3 Rows.frontHexesSpec Rows.frontHexesRow=true:=by kernel_rfl
theorem j17:(fun (P:Program) (f:FuncId) (fn:Func) (s:ChangeSpec) (c:OpenClaim)=>((c.wideKeys == (fn.params.toList++s.plain.varTypes P++fn.resultTypes.toList).any (P.wideKeysFrom ·)):Bool)) Tryz.pinned.checked.prog 3 Tryz.f3 Rows.frontHexesSpec Rows.frontHexesRow=true:=by kernel_rfl
theorem j18:(fun (P:Program) (f:FuncId) (fn:Func) (s:ChangeSpec) (c:OpenClaim)=>(s.vars.all (P.varReadable ·):Bool)) Tryz.pinned.checked.prog 3 Tryz.f3 Rows.frontHexesSpec Rows.frontHexesRow=true:=by kernel_rfl
theorem j19:(fun (P:Program) (f:FuncId) (fn:Func) (s:ChangeSpec) (c:OpenClaim)=>(fn.resultTypes.all (fun t=>P.readableRec t&&decide (t < P.types.size)):Bool)) Tryz.pinned.checked.prog 3 Tryz.f3 Rows.frontHexesSpec Rows.frontHexesRow=true:=by kernel_rfl
theorem j20:(fun (P:Program) (f:FuncId) (fn:Func) (s:ChangeSpec) (c:OpenClaim)=>((c.ifacesOut == fn.resultTypes.toList.any (P.ifacesRec ·)):Bool)) Tryz.pinned.checked.prog 3 Tryz.f3 Rows.frontHexesSpec Rows.frontHexesRow=true:=by kernel_rfl
theorem j21:(fun (P:Program) (f:FuncId) (fn:Func) (s:ChangeSpec) (c:OpenClaim)=>((c.loopsOut == fn.resultTypes.toList.any (P.loopsFrom ·)):Bool)) Tryz.pinned.checked.prog 3 Tryz.f3 Rows.frontHexesSpec Rows.frontHexesRow=true:=by kernel_rfl
theorem j22:(fun (P:Program) (f:FuncId) (fn:Func) (s:ChangeSpec) (c:OpenClaim)=>((c.plainKeys == P.plainKeys):Bool)) Tryz.pinned.checked.prog 3 Tryz.f3 Rows.frontHexesSpec Rows.frontHexesRow=true:=by kernel_rfl
theorem j23:(fun (P:Program) (f:FuncId) (fn:Func) (s:ChangeSpec) (c:OpenClaim)=>(c.shortTexts.isNone:Bool)) Tryz.pinned.checked.prog 3 Tryz.f3 Rows.frontHexesSpec Rows.frontHexesRow=true:=by kernel_rfl
theorem j24:(fun (P:Program) (f:FuncId) (fn:Func) (s:ChangeSpec) (c:OpenClaim)=>(P.stopsHeard:Bool)) Tryz.pinned.checked.prog 3 Tryz.f3 Rows.frontHexesSpec Rows.frontHexesRow=true:=by kernel_rfl
theorem j25:(fun (P:Program) (f:FuncId) (fn:Func) (s:ChangeSpec) (c:OpenClaim)=>(P.mayEnter:Bool)) Tryz.pinned.checked.prog 3 Tryz.f3 Rows.frontHexesSpec Rows.frontHexesRow=true:=by kernel_rfl
theorem j26:(fun (P:Program) (f:FuncId) (fn:Func) (s:ChangeSpec) (c:OpenClaim)=>((c.lifted == P.liftsFinal):Bool)) Tryz.pinned.checked.prog 3 Tryz.f3 Rows.frontHexesSpec Rows.frontHexesRow=true:=by kernel_rfl
theorem j27:(fun (P:Program) (f:FuncId) (fn:Func) (s:ChangeSpec) (c:OpenClaim)=>((P.make == some c.make):Bool)) Tryz.pinned.checked.prog 3 Tryz.f3 Rows.frontHexesSpec Rows.frontHexesRow=true:=by kernel_rfl
theorem j28:(fun (P:Program) (f:FuncId) (fn:Func) (s:ChangeSpec) (c:OpenClaim)=>((c.kinds == (if c.domain.isEmpty then [] else fn.params.toList.map fun t=>match P.underlying t with | some (.int k)=>some k | _=>none)):Bool)) Tryz.pinned.checked.prog 3 Tryz.f3 Rows.frontHexesSpec Rows.frontHexesRow=true:=by kernel_rfl
theorem j29:(fun (P:Program) (f:FuncId) (fn:Func) (s:ChangeSpec) (c:OpenClaim)=>((c.pinned == c.pinnedBy):Bool)) Tryz.pinned.checked.prog 3 Tryz.f3 Rows.frontHexesSpec Rows.frontHexesRow=true:=by kernel_rfl
theorem j30:(fun (P:Program) (f:FuncId) (fn:Func) (s:ChangeSpec) (c:OpenClaim)=>((c.veiled == (fn.params.toList++s.plain.varTypes P++fn.resultTypes.toList).any (P.veiledRec ·)):Bool)) Tryz.pinned.checked.prog 3 Tryz.f3 Rows.frontHexesSpec Rows.frontHexesRow=true:=by kernel_rfl
theorem j31:(fun (P:Program) (f:FuncId) (fn:Func) (s:ChangeSpec) (c:OpenClaim)=>(c.veiledFits P fn.params.toList (fn.params.toList++s.plain.varTypes P++fn.resultTypes.toList):Bool)) Tryz.pinned.checked.prog 3 Tryz.f3 Rows.frontHexesSpec Rows.frontHexesRow=true:=by kernel_rfl
theorem D9 {a b:Bool} (h:a=true) (h':b=true):(a&&b)=true:=by rw [h,h'];rfl
theorem g2:joinedFacts Tryz.pinned.checked.prog 3 Tryz.f3 Rows.frontHexesSpec Rows.frontHexesRow=true:=by
 unfold joinedFacts
 exact (D9 (D9 (D9 (D9 (D9 (D9 (D9 (D9 (D9 (D9 (D9 (D9 (D9 (D9 (D9 (D9 (D9 (D9 (D9 (D9 (D9 (D9 (D9 (D9 (D9 (D9 (D9 (D9 (D9 (D9 (D9 j0 j1) j2) j3) j4) j5) j6) j7) j8) j9) j10) j11) j12) j13) j14) j15) j16) j17) j18) j19) j20) j21) j22) j23) j24) j25) j26) j27) j28) j29) j30) j31)
theorem g3:Func.isInstance Tryz.pinned.checked.prog Tryz.f3 Rows.frontHexesRow.origin Rows.frontHexesRow.targs:=of_decide_eq_true (by kernel_rfl)
theorem g4:Func.isWrapper Tryz.pinned.checked.prog Tryz.f3 Rows.frontHexesRow.wrapper Rows.frontHexesRow.mainSum:=by
 unfold Func.isWrapper;first | (rw [if_pos (by decide +kernel)];kernel_rfl) | (rw [if_neg (by decide +kernel)];exact ⟨rfl,rfl⟩)
theorem C3j:Rows.FrontHexesSaid :=
 OpenClaim.holds_of_wide 3 Tryz.f3 rfl rfl rfl rfl rfl rfl rfl ⟨rfl,rfl,rfl,rfl,rfl⟩ rfl rfl rfl rfl rfl g1 Tryz.func3 g2 g3 g4 (fun os started H enc _=>lifted os started H enc)
theorem c1:Rows.frontHexesRow.wfByText (OpenSpec.ofChange Rows.frontHexesSpec)=true:=by kernel_rfl
theorem c2:Tryz.pinned.checked.prog.mainIs=some (true,"90602c10236fb2f943cb2ee9f8ca11251e3ecc3277161578736ae51a9da17318".toList):=by kernel_rfl
theorem c3:true=Tryz.pinned.checked.prog.looks []:=by kernel_rfl
theorem c4:Program.goes Tryz.pinned.checked.prog 3=false:=by
 unfold Program.goes Program.unfollowed;rw [clo];kernel_rfl
theorem B15 {c:OpenClaim} {P:Program} {f:FuncId} (h1:P.funcNamed c.func=some f) (h2:Program.goes P f=false) (h3:c.start=.entering):false=c.goesBy P:=by
 unfold OpenClaim.goesBy Program.goesAt Program.goesFrom
 rw [h1,h3]
 simp [h2]
theorem c5:false=Rows.frontHexesRow.goesBy Tryz.pinned.checked.prog:=B15 g1 c4 rfl
theorem B6N:([22,22,9].all fun u=>!Tryz.prog.wantsStandIn u)=true:=by kernel_rfl
theorem proved:Rows.FrontHexesCardSaid :=
 Claim7.holds_tied_plain_at .later [] [.data,.data,.data,.data,.sentinel,.sentinel,.pinned] true (true,"90602c10236fb2f943cb2ee9f8ca11251e3ecc3277161578736ae51a9da17318") true
  C3j (fun _ h=>by cases h) c1 (fun _ h=>by cases h) frontHexes_row_tie rfl ⟨rfl,rfl⟩ c2 rfl
  (fun f fn hf hfn=>by
   obtain rfl:f=3:=Option.some.inj (g1.symm.trans hf) |>.symm
   obtain rfl:fn=Tryz.f3:=(Option.some.inj (Tryz.func3.symm.trans hfn)).symm
   exact ⟨c3,fun j t ht=>by
    rw [Tryz.params3] at ht
    have hm:t∈[22,22,9]:=by simpa using Array.mem_of_getElem? ht
    exact (show Tryz.prog.wantsStandIn t=false by simpa using List.all_eq_true.1 B6N t hm)⟩)
  c5
end Go.Proofs.YtffgbjbmojdeeaaGreatDoor.frontHexes
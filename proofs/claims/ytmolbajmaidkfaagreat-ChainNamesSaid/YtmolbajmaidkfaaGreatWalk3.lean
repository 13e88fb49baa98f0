/- What functions compute, and the law run. -/
import Derived.Test.YtmolbajmaidkfaaGreatWalk2
import Derived.Test.YtmolbajmaidkfaaGreatVm12
import Derived.Test.YtmolbajmaidkfaaGreatVm10
set_option linter.constructorNameAsVariable false
set_option linter.unusedVariables false
set_option linter.unusedSimpArgs false
set_option linter.unnecessarySimpa false
noncomputable section
namespace Go.Proofs.YtmolbajmaidkfaaGreat
open Go.Vm
set_option maxRecDepth 100000
set_option linter.unusedVariables false
def C1T (fn:Go.Func):Go.Code:=match fn.body with
 | some c=>c
 | none=>.skip
def KZ:KS:=.no (A6 Tryz.prog T D4e 100000 60)
theorem hKZ:KOK Tryz.prog T KZ:=.no (fun f=>B3 follows D0 B3d)
def B5Z:F6:=B5X T KZ 10000 4 Tryz.f35 (C1T Tryz.f35)
theorem B50:B5 Tryz.prog T 35 B5Z:=B4l follows D0 hKZ Tryz.func35 (by kernel_rfl)
def D5D:F6:=B3K T KZ 10000 4 8 Tryz.f200 (C1T Tryz.f200)
theorem C9U:B5 Tryz.prog T 200 D5D:=B2r follows D0 hKZ Tryz.func200 (by kernel_rfl)
def B9b:List (Nat×F6):=(35,B5Z)::(200,D5D)::D4e
theorem B20:E6 Tryz.prog T B9b:=⟨B50,C9U,B3d⟩
end Go.Proofs.YtmolbajmaidkfaaGreat
namespace Go.Proofs.YtmolbajmaidkfaaGreat
open Go.Vm
set_option maxRecDepth 100000
set_option linter.unusedVariables false
theorem B4o:ob (A6 Tryz.prog T B9b 100000 60 4 (A4 T [] []) (fun _=>none) 0) (fun out=>A5 T true [.d 4] out)=some [.d 4 (.b true)]:=by kernel_rfl
def B1e:H6:=A9 T true [] (gF (fun _=>true) (fun _=>[.d 4 (.b true)]))
theorem C9V:B1e.nat:=A66 (B61 _ _)
theorem D5E:B5 Tryz.prog T 4 B1e.dir :=
 A8R (s:=A8p (A6 Tryz.prog T B9b 100000 60 4)) (A8q _) (by rw [A8r];exact B3 follows D0 B20) (rk:=[.d 4]) (B61 _ _) rfl (fun xs rs htv hrs=>by
  have hl:=htv.len
  cases xs with
  | cons _ _=>cases hl
  | nil =>
   obtain ⟨_,rfl⟩:=E0w hrs
   exact B4o)
end Go.Proofs.YtmolbajmaidkfaaGreat
namespace Go.Proofs.YtmolbajmaidkfaaGreat
open Go.Vm
set_option maxRecDepth 100000
set_option linter.unusedVariables false
def D5F:List (Nat×F6):=(4,B1e.dir)::B9b
theorem B9c:E6 Tryz.prog T D5F:=⟨D5E,B20⟩
theorem law_run:C9M true (A6 Tryz.prog T D5F 100000 60 3 [] (fun _=>none) 0)=true:=by kernel_rfl
end Go.Proofs.YtmolbajmaidkfaaGreat
end
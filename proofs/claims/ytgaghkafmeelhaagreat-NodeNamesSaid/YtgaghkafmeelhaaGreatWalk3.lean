/- What functions compute, and the law run. -/
import Derived.Test.YtgaghkafmeelhaaGreatWalk2
import Derived.Test.YtgaghkafmeelhaaGreatVm12
import Derived.Test.YtgaghkafmeelhaaGreatVm10
set_option linter.constructorNameAsVariable false
set_option linter.unusedVariables false
set_option linter.unusedSimpArgs false
set_option linter.unnecessarySimpa false
noncomputable section
namespace Go.Proofs.YtgaghkafmeelhaaGreat
open Go.Vm
set_option maxRecDepth 100000
set_option linter.unusedVariables false
def C2v (fn:Go.Func):Go.Code:=match fn.body with
 | some c=>c
 | none=>.skip
def KZ:KS:=.no (A9 Tryz.prog T D3c 100000 60)
theorem hKZ:KOK Tryz.prog T KZ:=.no (fun f=>B3 follows C5 B36)
def B8g:E7:=B7d T KZ 10000 4 Tryz.f137 (C2v Tryz.f137)
theorem B8h:B2 Tryz.prog T 137 B8g:=B4R follows C5 hKZ Tryz.func137 (by kernel_rfl)
def D4i:E7:=B3h T KZ 10000 4 8 Tryz.f325 (C2v Tryz.f325)
theorem C97:B2 Tryz.prog T 325 D4i:=B1y follows C5 hKZ Tryz.func325 (by kernel_rfl)
def B8i:List (Nat×E7):=(137,B8g)::(325,D4i)::D3c
theorem A48:D8 Tryz.prog T B8i:=⟨B8h,C97,B36⟩
end Go.Proofs.YtgaghkafmeelhaaGreat
namespace Go.Proofs.YtgaghkafmeelhaaGreat
open Go.Vm
set_option maxRecDepth 100000
set_option linter.unusedVariables false
def C2w:List A:=[.p 0 344 []]
def B8j:List Ob:=[.box 344 (.g 344 [.p 1 71 [],.i .i64 1,.i .i64 0,.i .u64 0,.v 43 (.l (List.replicate 32 (.i 0))),.b false]) false,.box 71 (.g 71 [.o 2 1,.o 3 1,.v 69 (.n),.i .i64 (-1),.b false]) false,.row 171 1 (List.replicate 400 (.l (List.replicate 128 (.i 0)))) false false,.row 171 1 (List.replicate 400 (.l (List.replicate 128 (.i 0)))) false false]
theorem D4j:B6v (A9 Tryz.prog T B8i 100000 60 199 C2w (ofL B8j) B8j.length)=some (.i .u64 0,[],804):=by kernel_rfl
def hM0:E7:=A94 B8j C2w (.i .u64 0) [] 804
theorem C98:B2 Tryz.prog T 199 hM0:=A5s (B3 follows C5 A48) D4j
def C2x:List A:=[.p 0 344 []]
def B8k:List Ob:=[.box 344 (.g 344 [.p 1 71 [],.i .i64 1,.i .i64 0,.i .u64 0,.v 43 (.l (List.replicate 32 (.i 0))),.b false]) false,.box 71 (.g 71 [.o 2 1,.o 3 1,.v 69 (.n),.i .i64 (-1),.b false]) false,.row 171 1 ([.l (List.replicate 128 (.i 0))]) false false,.row 171 1 ([.l (List.replicate 128 (.i 0))]) false false]
theorem D4k:B6v (A9 Tryz.prog T B8i 100000 60 199 C2x (ofL B8k) B8k.length)=some (.i .u64 0,[],4):=by kernel_rfl
def hM1:E7:=A94 B8k C2x (.i .u64 0) [] 4
theorem C99:B2 Tryz.prog T 199 hM1:=A5s (B3 follows C5 A48) D4k
def C2y:List A:=[.p 0 344 []]
def B8l:List Ob:=[.box 344 (.g 344 [.p 1 71 [],.i .i64 0,.i .i64 0,.i .u64 0,.v 43 (.l (List.replicate 32 (.i 0))),.b false]) false,.box 71 (.g 71 [.o 2 1,.o 3 1,.v 69 (.n),.i .i64 (-1),.b false]) false,.row 171 1 ([bl [66,89,78,65,77,69,48,49,1,0,0,0,0,0,0,0,179,131,144,54,252,253,66,41,208,173,43,136,173,134,160,110,75,169,135,124,160,72,58,186,177,179,10,195,54,68,158,250,0,0,0,0,0,0,0,0,0,0,0,0,0,0,0,0,0,0,0,0,0,0,0,0,0,0,0,0,0,0,0,0,0,0,0,0,0,0,0,0,0,0,0,0,0,0,0,0,0,0,0,0,0,0,0,0,0,0,0,0,0,0,0,0,0,0,0,0,0,0,0,0,1,0,0,0,0,0,0,0]]++[bl [1,0,0,0,1,0,19,50,224,205,10,199,4,162,2,23,157,220,228,35,189,112,155,109,234,237,62,254,160,34,187,214,247,142,233,178,85,121,0,0,0,0,0,0,0,0,0,0,0,0,0,0,0,0,0,0,0,0,0,0,0,0,0,0,0,0,0,0,0,0,0,0,0,0,0,0,0,0,0,0,0,0,0,0,0,0,0,0,0,0,0,0,0,0,0,0,0,0,0,0,0,0,0,0,0,0,0,0,0,0,0,0,0,0,0,0,0,0,0,0,1,0,0,0,0,0,0,0]]++List.replicate 398 (.l (List.replicate 128 (.i 0)))) false false,.row 171 1 ([bl [66,89,78,65,77,69,48,49,1,0,0,0,0,0,0,0,179,131,144,54,252,253,66,41,208,173,43,136,173,134,160,110,75,169,135,124,160,72,58,186,177,179,10,195,54,68,158,250,0,0,0,0,0,0,0,0,0,0,0,0,0,0,0,0,0,0,0,0,0,0,0,0,0,0,0,0,0,0,0,0,0,0,0,0,0,0,0,0,0,0,0,0,0,0,0,0,0,0,0,0,0,0,0,0,0,0,0,0,0,0,0,0,0,0,0,0,0,0,0,0,1,0,0,0,0,0,0,0]]++[bl [1,0,0,0,1,0,19,50,224,205,10,199,4,162,2,23,157,220,228,35,189,112,155,109,234,237,62,254,160,34,187,214,247,142,233,178,85,121,0,0,0,0,0,0,0,0,0,0,0,0,0,0,0,0,0,0,0,0,0,0,0,0,0,0,0,0,0,0,0,0,0,0,0,0,0,0,0,0,0,0,0,0,0,0,0,0,0,0,0,0,0,0,0,0,0,0,0,0,0,0,0,0,0,0,0,0,0,0,0,0,0,0,0,0,0,0,0,0,0,0,1,0,0,0,0,0,0,0]]++List.replicate 398 (.l (List.replicate 128 (.i 0)))) false false]
theorem D4l:B6v (A9 Tryz.prog T B8i 100000 60 199 C2y (ofL B8l) B8l.length)=some (.i .u64 1,[],804):=by kernel_rfl
def hM2:E7:=A94 B8l C2y (.i .u64 1) [] 804
theorem D0a:B2 Tryz.prog T 199 hM2:=A5s (B3 follows C5 A48) D4l
def C1v:List (Nat×E7):=(199,(orS hM0 (orS hM1 hM2)))::B8i
theorem B35:D8 Tryz.prog T C1v:=⟨(B6w C98 (B6w C99 D0a)),A48⟩
end Go.Proofs.YtgaghkafmeelhaaGreat
namespace Go.Proofs.YtgaghkafmeelhaaGreat
open Go.Vm
set_option maxRecDepth 100000
set_option linter.unusedVariables false
theorem B5s:ob (A9 Tryz.prog T C1v 100000 60 4 (A6 T [] []) (fun _=>none) 0) (fun out=>A7 T true [.d 4] out)=some [.d 4 (.b true)]:=by kernel_rfl
def B2r:H4:=A5 T true [] (gF (fun _=>true) (fun _=>[.d 4 (.b true)]))
theorem D0b:B2r.nat:=A7j (B7B _ _)
theorem D4m:B2 Tryz.prog T 4 B2r.dir :=
 A9l (s:=A4M (A9 Tryz.prog T C1v 100000 60 4)) (A4u _) (by rw [A4v];exact B3 follows C5 B35) (rk:=[.d 4]) (B7B _ _) rfl (fun xs rs htv hrs=>by
  have hl:=htv.len
  cases xs with
  | cons _ _=>cases hl
  | nil =>
   obtain ⟨_,rfl⟩:=D33 hrs
   exact B5s)
end Go.Proofs.YtgaghkafmeelhaaGreat
namespace Go.Proofs.YtgaghkafmeelhaaGreat
open Go.Vm
set_option maxRecDepth 100000
set_option linter.unusedVariables false
def D4n:List (Nat×E7):=(4,B2r.dir)::C1v
theorem C1w:D8 Tryz.prog T D4n:=⟨D4m,B35⟩
theorem law_run:D3H true (A9 Tryz.prog T D4n 100000 60 3 [] (fun _=>none) 0)=true:=by kernel_rfl
end Go.Proofs.YtgaghkafmeelhaaGreat
end
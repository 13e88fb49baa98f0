/- What functions compute, and the law run. -/
import Derived.Test.YteoeonfajlnggaaGreatWalk1
import Derived.Test.YteoeonfajlnggaaGreatVm12
import Derived.Test.YteoeonfajlnggaaGreatVm10
import Derived.Test.YteoeonfajlnggaaGreatVm11
import Derived.Test.YteoeonfajlnggaaGreatVm9
import Derived.Test.YteoeonfajlnggaaGreatVm13
import Derived.Test.YteoeonfajlnggaaGreatProg
import Derived.RangeFuncNested
import Derived.RangeFuncBound
import Derived.RangeFuncCalls
import Derived.RangeFuncLeaves
import Derived.Shelf.Abstract
import Derived.Shelf.RegionOpen
import Derived.WalkKit
import Derived.OwnWalkIn
import Derived.TacticsInMore
import Derived.LoopNIn
import Derived.LoopIn
import Derived.LoopTactic
import Derived.Deep.WholeRow
import Derived.Maps.AppendAt
import Derived.Shelf.SlMaps.Clone
set_option linter.constructorNameAsVariable false
set_option linter.unusedVariables false
set_option linter.unusedSimpArgs false
noncomputable section
namespace Go.Proofs.YteoeonfajlnggaaGreat
open Go.Vm
set_option maxRecDepth 100000
set_option linter.unusedVariables false
set_option linter.constructorNameAsVariable false
def B2r:B7V→Vm.St
 | .m xs f h i=>⟨[(0,.o 0 1),(3,.f 45 []),(8,.i .i64 f),(9,.i .i64 0),(10,.i .i64 h),(11,.i .i64 i)],(.n (some (.row 38 1 xs false false)) .e .e),[0],1,some []⟩
def C7v (R:Type) (kx:Exit→Vm.St→Option R):D35→Option R
 | .o xs f h i=>kx (.exit 0) { B2r (.m xs f h i) with nx:=8192 }
def B2s:Vm.St→Option B7V
 | ⟨[(0,.o 0 1),(3,.f 45 []),(8,.i .i64 f),(9,.i .i64 0),(10,.i .i64 h),(11,.i .i64 i)],(.n (some (.row 38 1 xs false false)) .e .e),[0],1,some []⟩=>some (.m xs f h i)
 | _=>none
theorem B6D:J7 B2s B2r:=by
 intro _ _ h
 unfold B2s at h
 split at h<;>first | (cases h;rfl) | cases h
theorem C7w:E7 T K38 (fun _=>none) (nT 90) (cT 90 0) 1 [999999,0,3,8,9,10,11] 8192 B2r A97 C7v:=by
 intro R of x K kx
 cases x<;>kernel_rfl
def C7x:LS:=D9 T K38 (fun _=>none) (nT 90) (cT 90 0) 1 [999999,0,3,8,9,10,11] 8192 B2s A97 C7v
theorem B4m:B8 Tryz.prog T (nT 90) 1 (cT 90 0) C7x :=
 B1 follows B4 B9R B9S A6 (A1 _) B2r B6D C7w
def B2t:B7W→Vm.St
 | .m xs f h i=>⟨[(0,.o 0 1),(3,.f 45 []),(8,.i .i64 f),(9,.i .i64 0),(10,.i .i64 h),(12,.i .i64 i)],(.n (some (.row 38 1 xs false false)) .e .e),[0],1,some []⟩
def C7y (R:Type) (kx:Exit→Vm.St→Option R):D36→Option R
 | .o xs f h i=>kx (.exit 2) { B2t (.m xs f h i) with nx:=65536 }
def B2u:Vm.St→Option B7W
 | ⟨[(0,.o 0 1),(3,.f 45 []),(8,.i .i64 f),(9,.i .i64 0),(10,.i .i64 h),(12,.i .i64 i)],(.n (some (.row 38 1 xs false false)) .e .e),[0],1,some []⟩=>some (.m xs f h i)
 | _=>none
theorem B6E:J7 B2u B2t:=by
 intro _ _ h
 unfold B2u at h
 split at h<;>first | (cases h;rfl) | cases h
theorem C7z:E7 T K38 (fun _=>none) (nT 90) (cT 90 1) 1 [999999,0,3,8,9,10,12] 65536 B2t A98 C7y:=by
 intro R of x K kx
 cases x<;>kernel_rfl
def C7A:LS:=D9 T K38 (fun _=>none) (nT 90) (cT 90 1) 1 [999999,0,3,8,9,10,12] 65536 B2u A98 C7y
theorem B4n:B8 Tryz.prog T (nT 90) 1 (cT 90 1) C7A :=
 B1 follows B4 B9R B9S A6 (A1 _) B2t B6E C7z
def B2v:B7X→Vm.St
 | .m xs a b l m i r=>⟨[(0,.o 0 1),(1,.i .i64 a),(2,.i .i64 b),(3,.f 45 []),(8,.i .i64 l),(9,.p 1 158 []),(10,.i .u64 m),(11,.i .i64 i)],(.n (some (.row 38 1 xs false false)) (.n (some (.box 158 (.i .u64 r) false)) .e .e) .e),[0],2,some []⟩
def C7B (R:Type) (kx:Exit→Vm.St→Option R):D37→Option R
 | .o xs a b l m i r=>kx (.exit 0) { B2v (.m xs a b l m i r) with nx:=64 }
def B2w:Vm.St→Option B7X
 | ⟨[(0,.o 0 1),(1,.i .i64 a),(2,.i .i64 b),(3,.f 45 []),(8,.i .i64 l),(9,.p 1 158 []),(10,.i .u64 m),(11,.i .i64 i)],(.n (some (.row 38 1 xs false false)) (.n (some (.box 158 (.i .u64 r) false)) .e .e) .e),[0],2,some []⟩=>some (.m xs a b l m i r)
 | _=>none
theorem B6F:J7 B2w B2v:=by
 intro _ _ h
 unfold B2w at h
 split at h<;>first | (cases h;rfl) | cases h
theorem C7C:E7 T K38 (fun _=>none) (nT 91) (cT 91 0) 1 [999999,0,1,2,3,8,9,10,11] 64 B2v A3O C7B:=by
 intro R of x K kx
 cases x<;>kernel_rfl
def C7D:LS:=D9 T K38 (fun _=>none) (nT 91) (cT 91 0) 1 [999999,0,1,2,3,8,9,10,11] 64 B2w A3O C7B
theorem B4o:B8 Tryz.prog T (nT 91) 1 (cT 91 0) C7D :=
 B1 follows B4 B9R B9S A6 (A1 _) B2v B6F C7C
def C7E:Nat→LC:=atN 1 [(4,C7x),(8,C7A)]
theorem B0Q:F4 Tryz.prog T 90 C7E:=D1 1 (List.forall_mem_cons.2 ⟨B4m.1,List.forall_mem_cons.2 ⟨B4n.1,fun _ h=>by cases h⟩⟩) 2 (by kernel_rfl) ⟨⟨trivial,T9 (s0:=C7x) (by kernel_rfl) B4m⟩,T9 (s0:=C7A) (by kernel_rfl) B4n⟩
def C7F:Nat→LC:=atN 1 [(5,C7D)]
theorem B0R:F4 Tryz.prog T 91 C7F:=D1 1 (List.forall_mem_cons.2 ⟨B4o.1,fun _ h=>by cases h⟩) 1 (by kernel_rfl) ⟨trivial,T9 (s0:=C7D) (by kernel_rfl) B4o⟩
end Go.Proofs.YteoeonfajlnggaaGreat
namespace Go.Proofs.YteoeonfajlnggaaGreat
open Go.Vm
set_option maxRecDepth 100000
set_option linter.unusedVariables false
set_option linter.constructorNameAsVariable false
theorem D2y (xs:List V) (a b:Int):(P1 Tryz.prog T K38 C7E false FU 90).dir [.o 0 1,.i .i64 a,.i .i64 b,.f 45 []] (ofL [.row 38 1 xs false false]) 1=C5d J2 xs a b (fun ys=>some (⟨.t [],[(0,.row 38 1 ys false false)],[0],65536⟩:J2)):=by kernel_rfl
theorem D2z:R4 Tryz.prog T 90 (M8 (A4g 38 45) A03 (L7 38 65536 (fun _=>.t []) A5T)).dir :=
 A3j (H0 follows B4 B9R B9S B0Q.nat B0Q.ok) (fun xs a b hg=>⟨65536,[0],by first | decide | (cases A0F _<;>decide),(D2y xs a b).trans (B92 (R:=J2) hg (fun ys=>some (⟨.t [],[(0,.row 38 1 ys false false)],[0],65536⟩:J2))),by simp⟩)
theorem D2A (xs:List V) (a b:Int):(P1 Tryz.prog T K38 C7F false FU 91).dir [.o 0 1,.i .i64 a,.i .i64 b,.f 45 []] (ofL [.row 38 1 xs false false]) 1=C5m J2 xs a b (fun n ys=>some (⟨.t [],[(0,.row 38 1 ys false false)],[0],n⟩:J2)):=by kernel_rfl
theorem D2B:R4 Tryz.prog T 91 (M8 (A4g 38 45) A03 (L7 38 1024 (fun _=>.t []) A5U)).dir :=
 A3j (H0 follows B4 B9R B9S B0R.nat B0R.ok) (fun xs a b hg=>⟨bif F2 8 (B2 (b - a)) then 64 else 1,[0],by cases F2 8 (B2 (b - a))<;>decide,(D2A xs a b).trans (B96 (R:=J2) hg (fun n ys=>some (⟨.t [],[(0,.row 38 1 ys false false)],[0],n⟩:J2))),by simp⟩)
theorem D7K (xs:List V) (a b c n:Int):(P1 Tryz.prog T K38 (fun _ _=>none) false FU 110).dir [.o 0 1,.i .i64 a,.i .i64 b,.i .i64 c,.p 1 3 [],.f 45 []] (ofL [.row 38 1 xs false false,.box 3 (.i .i64 n) false]) 2=D6C J2 xs a b c n (fun i n=>some (⟨.i .i64 i,[(0,.row 38 1 xs false false),(1,.box 3 (.i .i64 n) false)],[1,0],2⟩:J2)):=by kernel_rfl
theorem D7L:R4 Tryz.prog T 110 (M8 (D0N 38 3 45) B1Q (C5h 38 3 2)).dir :=
 D0O (by kernel_rfl) (by kernel_rfl) (H0 follows B4 B9R B9S (C8 (P:=Tryz.prog) (T:=T) (f:=110)).nat C8.ok) (fun xs a b c n hg =>
  ⟨2,[1,0],by decide,(D7K xs a b c n).trans (C5i (R:=J2) hg (fun i n=>some (⟨.i .i64 i,[(0,.row 38 1 xs false false),(1,.box 3 (.i .i64 n) false)],[1,0],2⟩:J2))),by simp⟩)
def C7G:List (Nat×D3):=(90,trS (M8 (A4g 38 45) A03 (L7 38 65536 (fun _=>.t []) A5T)))::(91,trS (M8 (A4g 38 45) A03 (L7 38 1024 (fun _=>.t []) A5U)))::(110,trS (M8 (D0N 38 3 45) B1Q (C5h 38 3 2)))::C40
theorem A8U:C7 Tryz.prog T C7G:=(((A7H).cons (J8 D6) (N5 D6 D7L)).cons (J8 D6) (N5 D6 D2B)).cons (J8 D6) (N5 D6 D2z)
def K39:KC:=E4 Tryz.prog T C7G false FU 4
theorem D9B:K39.nat:=A8 A8U 4
theorem D9C:W6 Tryz.prog T K39.dir:=B6 follows B4 A8U 4
theorem D2C (xs:List V) (a b:Int):(P1 Tryz.prog T K39 (fun _ _=>none) false FU 92).dir [.o 0 1,.i .i64 a,.i .i64 b,.f 45 []] (ofL [.row 38 1 xs false false]) 1=C5l J2 xs a b (fun i h=>some (⟨.t [.i .i64 i,.i .i64 h],[(0,.row 38 1 xs false false)],[0],2⟩:J2)):=by kernel_rfl
theorem D2D:R4 Tryz.prog T 92 (M8 (A4g 38 45) A2k (L7 38 1024 (fun s=>.t [.i .i64 (A1R s),.i .i64 (A50 s)]) (fun s=>s.xs))).dir :=
 A3j (H0 follows B4 D9B D9C (C8 (P:=Tryz.prog) (T:=T) (f:=92)).nat C8.ok) (fun xs a b hg=>⟨2,[0],by first | decide | (cases A0F _<;>decide),(D2C xs a b).trans (B95 (R:=J2) hg (fun i h=>some (⟨.t [.i .i64 i,.i .i64 h],[(0,.row 38 1 xs false false)],[0],2⟩:J2))),by simp⟩)
def C7H:List (Nat×D3):=(92,trS (M8 (A4g 38 45) A2k (L7 38 1024 (fun s=>.t [.i .i64 (A1R s),.i .i64 (A50 s)]) (fun s=>s.xs))))::C7G
theorem A8V:C7 Tryz.prog T C7H:=(A8U).cons (J8 D6) (N5 D6 D2D)
def K40:KC:=E4 Tryz.prog T C7H false FU 4
theorem E0k:K40.nat:=A8 A8V 4
theorem E0l:W6 Tryz.prog T K40.dir:=B6 follows B4 A8V 4
end Go.Proofs.YteoeonfajlnggaaGreat
namespace Go.Proofs.YteoeonfajlnggaaGreat
open Go.Vm
set_option maxRecDepth 100000
set_option linter.unusedVariables false
set_option linter.constructorNameAsVariable false
def C7I:List (Nat×D3):=(77,trS (M8 (A2l 38 45) (A0g 0) (L7 38 1 (fun _=>.t []) T6)))::C7H
theorem A8W:C7 Tryz.prog T C7I:=A8V.cons (J8 D6) (N5 D6 (B9u B97))
def K41:KC:=E4 Tryz.prog T C7I false FU 4
theorem D9a:K41.nat:=A8 A8W 4
theorem D9b:W6 Tryz.prog T K41.dir:=B6 follows B4 A8W 4
def B2x:T0→Vm.St
 | .m xs a b l wb wp=>⟨[(0,.o 0 1),(1,.i .i64 a),(2,.i .i64 b),(3,.i .i64 l),(4,.f 45 []),(10,.b wb),(11,.b wp)],(.n (some (.row 38 1 xs false false)) .e .e),[0],1,some []⟩
def C7J (R:Type) (kx:Exit→Vm.St→Option R):A4y→Option R
 | .r xs a b l wb wp=>kx (.ret) ⟨[(0,.o 0 1),(1,.i .i64 a),(2,.i .i64 b),(3,.i .i64 l),(4,.f 45 []),(10,.b wb),(11,.b wp)],(.n (some (.row 38 1 xs false false)) .e .e),[0],262144,some []⟩
def B2y:Vm.St→Option T0
 | ⟨[(0,.o 0 1),(1,.i .i64 a),(2,.i .i64 b),(3,.i .i64 l),(4,.f 45 []),(10,.b wb),(11,.b wp)],(.n (some (.row 38 1 xs false false)) .e .e),[0],1,some []⟩=>some (.m xs a b l wb wp)
 | _=>none
theorem B6G (τ:Vm.St) (x:T0) (h:B2y τ=some x):τ=B2x x:=by
 unfold B2y at h
 split at h<;>first | (cases h;rfl) | cases h
theorem C7K (R:Type) (of:Nat→Option Ob) (x:T0) (K:Vm.St→Option R) (kx:Exit→Vm.St→Option R):T5 T K41 (fun _=>none) false FU (nT 77) of R (cT 77 0) (B2x x) (A3a 1 [999999,0,1,2,3,4,10,11] 262144 K kx)=(V4 0) R x (fun x'=>K (B2x x')) (C7J R kx):=by
 cases x with
 | m _ _ _ _ _ _=>kernel_rfl
def C7L:LS:=D9 T K41 (fun _=>none) (nT 77) (cT 77 0) 1 [999999,0,1,2,3,4,10,11] 262144 B2y (V4 0) C7J
theorem B4p:B8 Tryz.prog T (nT 77) 1 (cT 77 0) C7L :=
 B1 follows B4 D9a D9b A6 (A1 _) B2x B6G C7K
def D4p:Nat→LC:=atN 1 [(2,C7L)]
theorem B4q:F4 Tryz.prog T 77 D4p:=D1 1 (List.forall_mem_cons.2 ⟨B4p.1,fun _ h=>by cases h⟩) 1 (by kernel_rfl) ⟨trivial,T9 (s0:=C7L) (by kernel_rfl) B4p⟩
theorem D2E (xs:List V) (a b c:Int):(P1 Tryz.prog T K41 D4p false FU 77).dir [.o 0 1,.i .i64 a,.i .i64 b,.i .i64 c,.f 45 []] (ofL [.row 38 1 xs false false]) 1=B0g 0 J2 xs a b c (fun ys=>some (⟨.t [],[(0,.row 38 1 ys false false)],[0],262144⟩:J2)):=by kernel_rfl
theorem D2F:R4 Tryz.prog T 77 (M8 (A2l 38 45) (A0g 13) (L7 38 262144 (fun _=>.t []) T6)).dir :=
 A1r (H0 follows B4 D9a D9b B4q.nat B4q.ok) (fun xs a b c hg=>⟨262144,[0],by decide,(D2E xs a b c).trans (A14 (q:=0) (L:=13) (by decide) hg (fun ys=>some (⟨.t [],[(0,.row 38 1 ys false false)],[0],262144⟩:J2))),by simp⟩)
def C7M:List (Nat×D3):=(77,trS (M8 (A2l 38 45) (A0g 13) (L7 38 262144 (fun _=>.t []) T6)))::C7I
theorem A8X:C7 Tryz.prog T C7M:=A8W.cons (J8 D6) (N5 D6 D2F)
def K42:KC:=E4 Tryz.prog T C7M false FU 4
theorem D9c:K42.nat:=A8 A8X 4
theorem D9d:W6 Tryz.prog T K42.dir:=B6 follows B4 A8X 4
def B2z:T0→Vm.St
 | .m xs a b l wb wp=>⟨[(0,.o 0 1),(1,.i .i64 a),(2,.i .i64 b),(3,.i .i64 l),(4,.f 45 []),(10,.b wb),(11,.b wp)],(.n (some (.row 38 1 xs false false)) .e .e),[0],1,some []⟩
def C7N (R:Type) (kx:Exit→Vm.St→Option R):A4y→Option R
 | .r xs a b l wb wp=>kx (.ret) ⟨[(0,.o 0 1),(1,.i .i64 a),(2,.i .i64 b),(3,.i .i64 l),(4,.f 45 []),(10,.b wb),(11,.b wp)],(.n (some (.row 38 1 xs false false)) .e .e),[0],1048576,some []⟩
def B2A:Vm.St→Option T0
 | ⟨[(0,.o 0 1),(1,.i .i64 a),(2,.i .i64 b),(3,.i .i64 l),(4,.f 45 []),(10,.b wb),(11,.b wp)],(.n (some (.row 38 1 xs false false)) .e .e),[0],1,some []⟩=>some (.m xs a b l wb wp)
 | _=>none
theorem B6H (τ:Vm.St) (x:T0) (h:B2A τ=some x):τ=B2z x:=by
 unfold B2A at h
 split at h<;>first | (cases h;rfl) | cases h
theorem C7O (R:Type) (of:Nat→Option Ob) (x:T0) (K:Vm.St→Option R) (kx:Exit→Vm.St→Option R):T5 T K42 (fun _=>none) false FU (nT 77) of R (cT 77 0) (B2z x) (A3a 1 [999999,0,1,2,3,4,10,11] 1048576 K kx)=(V4 13) R x (fun x'=>K (B2z x')) (C7N R kx):=by
 cases x with
 | m _ _ _ _ _ _=>kernel_rfl
def C7P:LS:=D9 T K42 (fun _=>none) (nT 77) (cT 77 0) 1 [999999,0,1,2,3,4,10,11] 1048576 B2A (V4 13) C7N
theorem B4r:B8 Tryz.prog T (nT 77) 1 (cT 77 0) C7P :=
 B1 follows B4 D9c D9d A6 (A1 _) B2z B6H C7O
def D4q:Nat→LC:=atN 1 [(2,C7P)]
theorem B4s:F4 Tryz.prog T 77 D4q:=D1 1 (List.forall_mem_cons.2 ⟨B4r.1,fun _ h=>by cases h⟩) 1 (by kernel_rfl) ⟨trivial,T9 (s0:=C7P) (by kernel_rfl) B4r⟩
theorem D2G (xs:List V) (a b c:Int):(P1 Tryz.prog T K42 D4q false FU 77).dir [.o 0 1,.i .i64 a,.i .i64 b,.i .i64 c,.f 45 []] (ofL [.row 38 1 xs false false]) 1=B0g 13 J2 xs a b c (fun ys=>some (⟨.t [],[(0,.row 38 1 ys false false)],[0],1048576⟩:J2)):=by kernel_rfl
theorem D2H:R4 Tryz.prog T 77 (M8 (A2l 38 45) (A0g 26) (L7 38 1048576 (fun _=>.t []) T6)).dir :=
 A1r (H0 follows B4 D9c D9d B4s.nat B4s.ok) (fun xs a b c hg=>⟨1048576,[0],by decide,(D2G xs a b c).trans (A14 (q:=13) (L:=26) (by decide) hg (fun ys=>some (⟨.t [],[(0,.row 38 1 ys false false)],[0],1048576⟩:J2))),by simp⟩)
def C7Q:List (Nat×D3):=(77,trS (M8 (A2l 38 45) (A0g 26) (L7 38 1048576 (fun _=>.t []) T6)))::C7M
theorem A8Y:C7 Tryz.prog T C7Q:=A8X.cons (J8 D6) (N5 D6 D2H)
def K43:KC:=E4 Tryz.prog T C7Q false FU 4
theorem D9e:K43.nat:=A8 A8Y 4
theorem D9f:W6 Tryz.prog T K43.dir:=B6 follows B4 A8Y 4
def B2B:T0→Vm.St
 | .m xs a b l wb wp=>⟨[(0,.o 0 1),(1,.i .i64 a),(2,.i .i64 b),(3,.i .i64 l),(4,.f 45 []),(10,.b wb),(11,.b wp)],(.n (some (.row 38 1 xs false false)) .e .e),[0],1,some []⟩
def C7R (R:Type) (kx:Exit→Vm.St→Option R):A4y→Option R
 | .r xs a b l wb wp=>kx (.ret) ⟨[(0,.o 0 1),(1,.i .i64 a),(2,.i .i64 b),(3,.i .i64 l),(4,.f 45 []),(10,.b wb),(11,.b wp)],(.n (some (.row 38 1 xs false false)) .e .e),[0],4194304,some []⟩
def B2C:Vm.St→Option T0
 | ⟨[(0,.o 0 1),(1,.i .i64 a),(2,.i .i64 b),(3,.i .i64 l),(4,.f 45 []),(10,.b wb),(11,.b wp)],(.n (some (.row 38 1 xs false false)) .e .e),[0],1,some []⟩=>some (.m xs a b l wb wp)
 | _=>none
theorem B6I (τ:Vm.St) (x:T0) (h:B2C τ=some x):τ=B2B x:=by
 unfold B2C at h
 split at h<;>first | (cases h;rfl) | cases h
theorem C7S (R:Type) (of:Nat→Option Ob) (x:T0) (K:Vm.St→Option R) (kx:Exit→Vm.St→Option R):T5 T K43 (fun _=>none) false FU (nT 77) of R (cT 77 0) (B2B x) (A3a 1 [999999,0,1,2,3,4,10,11] 4194304 K kx)=(V4 26) R x (fun x'=>K (B2B x')) (C7R R kx):=by
 cases x with
 | m _ _ _ _ _ _=>kernel_rfl
def C7T:LS:=D9 T K43 (fun _=>none) (nT 77) (cT 77 0) 1 [999999,0,1,2,3,4,10,11] 4194304 B2C (V4 26) C7R
theorem B4t:B8 Tryz.prog T (nT 77) 1 (cT 77 0) C7T :=
 B1 follows B4 D9e D9f A6 (A1 _) B2B B6I C7S
def D4r:Nat→LC:=atN 1 [(2,C7T)]
theorem B4u:F4 Tryz.prog T 77 D4r:=D1 1 (List.forall_mem_cons.2 ⟨B4t.1,fun _ h=>by cases h⟩) 1 (by kernel_rfl) ⟨trivial,T9 (s0:=C7T) (by kernel_rfl) B4t⟩
theorem D2I (xs:List V) (a b c:Int):(P1 Tryz.prog T K43 D4r false FU 77).dir [.o 0 1,.i .i64 a,.i .i64 b,.i .i64 c,.f 45 []] (ofL [.row 38 1 xs false false]) 1=B0g 26 J2 xs a b c (fun ys=>some (⟨.t [],[(0,.row 38 1 ys false false)],[0],4194304⟩:J2)):=by kernel_rfl
theorem D2J:R4 Tryz.prog T 77 (M8 (A2l 38 45) (A0g 52) (L7 38 4194304 (fun _=>.t []) T6)).dir :=
 A1r (H0 follows B4 D9e D9f B4u.nat B4u.ok) (fun xs a b c hg=>⟨4194304,[0],by decide,(D2I xs a b c).trans (A14 (q:=26) (L:=52) (by decide) hg (fun ys=>some (⟨.t [],[(0,.row 38 1 ys false false)],[0],4194304⟩:J2))),by simp⟩)
def C7U:List (Nat×D3):=(77,trS (M8 (A2l 38 45) (A0g 52) (L7 38 4194304 (fun _=>.t []) T6)))::C7Q
theorem A8Z:C7 Tryz.prog T C7U:=A8Y.cons (J8 D6) (N5 D6 D2J)
def K44:KC:=E4 Tryz.prog T C7U false FU 4
theorem D9g:K44.nat:=A8 A8Z 4
theorem D9h:W6 Tryz.prog T K44.dir:=B6 follows B4 A8Z 4
def B2D:T0→Vm.St
 | .m xs a b l wb wp=>⟨[(0,.o 0 1),(1,.i .i64 a),(2,.i .i64 b),(3,.i .i64 l),(4,.f 45 []),(10,.b wb),(11,.b wp)],(.n (some (.row 38 1 xs false false)) .e .e),[0],1,some []⟩
def C7V (R:Type) (kx:Exit→Vm.St→Option R):A4y→Option R
 | .r xs a b l wb wp=>kx (.ret) ⟨[(0,.o 0 1),(1,.i .i64 a),(2,.i .i64 b),(3,.i .i64 l),(4,.f 45 []),(10,.b wb),(11,.b wp)],(.n (some (.row 38 1 xs false false)) .e .e),[0],16777216,some []⟩
def B2E:Vm.St→Option T0
 | ⟨[(0,.o 0 1),(1,.i .i64 a),(2,.i .i64 b),(3,.i .i64 l),(4,.f 45 []),(10,.b wb),(11,.b wp)],(.n (some (.row 38 1 xs false false)) .e .e),[0],1,some []⟩=>some (.m xs a b l wb wp)
 | _=>none
theorem B6J (τ:Vm.St) (x:T0) (h:B2E τ=some x):τ=B2D x:=by
 unfold B2E at h
 split at h<;>first | (cases h;rfl) | cases h
theorem C7W (R:Type) (of:Nat→Option Ob) (x:T0) (K:Vm.St→Option R) (kx:Exit→Vm.St→Option R):T5 T K44 (fun _=>none) false FU (nT 77) of R (cT 77 0) (B2D x) (A3a 1 [999999,0,1,2,3,4,10,11] 16777216 K kx)=(V4 52) R x (fun x'=>K (B2D x')) (C7V R kx):=by
 cases x with
 | m _ _ _ _ _ _=>kernel_rfl
def C7X:LS:=D9 T K44 (fun _=>none) (nT 77) (cT 77 0) 1 [999999,0,1,2,3,4,10,11] 16777216 B2E (V4 52) C7V
theorem B4v:B8 Tryz.prog T (nT 77) 1 (cT 77 0) C7X :=
 B1 follows B4 D9g D9h A6 (A1 _) B2D B6J C7W
def D4s:Nat→LC:=atN 1 [(2,C7X)]
theorem B4w:F4 Tryz.prog T 77 D4s:=D1 1 (List.forall_mem_cons.2 ⟨B4v.1,fun _ h=>by cases h⟩) 1 (by kernel_rfl) ⟨trivial,T9 (s0:=C7X) (by kernel_rfl) B4v⟩
theorem D2K (xs:List V) (a b c:Int):(P1 Tryz.prog T K44 D4s false FU 77).dir [.o 0 1,.i .i64 a,.i .i64 b,.i .i64 c,.f 45 []] (ofL [.row 38 1 xs false false]) 1=B0g 52 J2 xs a b c (fun ys=>some (⟨.t [],[(0,.row 38 1 ys false false)],[0],16777216⟩:J2)):=by kernel_rfl
theorem D2L:R4 Tryz.prog T 77 (M8 (A2l 38 45) (A0g 104) (L7 38 16777216 (fun _=>.t []) T6)).dir :=
 A1r (H0 follows B4 D9g D9h B4w.nat B4w.ok) (fun xs a b c hg=>⟨16777216,[0],by decide,(D2K xs a b c).trans (A14 (q:=52) (L:=104) (by decide) hg (fun ys=>some (⟨.t [],[(0,.row 38 1 ys false false)],[0],16777216⟩:J2))),by simp⟩)
def C7Y:List (Nat×D3):=(77,trS (M8 (A2l 38 45) (A0g 104) (L7 38 16777216 (fun _=>.t []) T6)))::C7U
theorem A80:C7 Tryz.prog T C7Y:=A8Z.cons (J8 D6) (N5 D6 D2L)
def K45:KC:=E4 Tryz.prog T C7Y false FU 4
theorem D9i:K45.nat:=A8 A80 4
theorem D9j:W6 Tryz.prog T K45.dir:=B6 follows B4 A80 4
def B2F:T0→Vm.St
 | .m xs a b l wb wp=>⟨[(0,.o 0 1),(1,.i .i64 a),(2,.i .i64 b),(3,.i .i64 l),(4,.f 45 []),(10,.b wb),(11,.b wp)],(.n (some (.row 38 1 xs false false)) .e .e),[0],1,some []⟩
def C7Z (R:Type) (kx:Exit→Vm.St→Option R):A4y→Option R
 | .r xs a b l wb wp=>kx (.ret) ⟨[(0,.o 0 1),(1,.i .i64 a),(2,.i .i64 b),(3,.i .i64 l),(4,.f 45 []),(10,.b wb),(11,.b wp)],(.n (some (.row 38 1 xs false false)) .e .e),[0],67108864,some []⟩
def B2G:Vm.St→Option T0
 | ⟨[(0,.o 0 1),(1,.i .i64 a),(2,.i .i64 b),(3,.i .i64 l),(4,.f 45 []),(10,.b wb),(11,.b wp)],(.n (some (.row 38 1 xs false false)) .e .e),[0],1,some []⟩=>some (.m xs a b l wb wp)
 | _=>none
theorem B6K (τ:Vm.St) (x:T0) (h:B2G τ=some x):τ=B2F x:=by
 unfold B2G at h
 split at h<;>first | (cases h;rfl) | cases h
theorem C70 (R:Type) (of:Nat→Option Ob) (x:T0) (K:Vm.St→Option R) (kx:Exit→Vm.St→Option R):T5 T K45 (fun _=>none) false FU (nT 77) of R (cT 77 0) (B2F x) (A3a 1 [999999,0,1,2,3,4,10,11] 67108864 K kx)=(V4 104) R x (fun x'=>K (B2F x')) (C7Z R kx):=by
 cases x with
 | m _ _ _ _ _ _=>kernel_rfl
def C71:LS:=D9 T K45 (fun _=>none) (nT 77) (cT 77 0) 1 [999999,0,1,2,3,4,10,11] 67108864 B2G (V4 104) C7Z
theorem B4x:B8 Tryz.prog T (nT 77) 1 (cT 77 0) C71 :=
 B1 follows B4 D9i D9j A6 (A1 _) B2F B6K C70
def D4t:Nat→LC:=atN 1 [(2,C71)]
theorem B4y:F4 Tryz.prog T 77 D4t:=D1 1 (List.forall_mem_cons.2 ⟨B4x.1,fun _ h=>by cases h⟩) 1 (by kernel_rfl) ⟨trivial,T9 (s0:=C71) (by kernel_rfl) B4x⟩
theorem D2M (xs:List V) (a b c:Int):(P1 Tryz.prog T K45 D4t false FU 77).dir [.o 0 1,.i .i64 a,.i .i64 b,.i .i64 c,.f 45 []] (ofL [.row 38 1 xs false false]) 1=B0g 104 J2 xs a b c (fun ys=>some (⟨.t [],[(0,.row 38 1 ys false false)],[0],67108864⟩:J2)):=by kernel_rfl
theorem D2N:R4 Tryz.prog T 77 (M8 (A2l 38 45) (A0g 208) (L7 38 67108864 (fun _=>.t []) T6)).dir :=
 A1r (H0 follows B4 D9i D9j B4y.nat B4y.ok) (fun xs a b c hg=>⟨67108864,[0],by decide,(D2M xs a b c).trans (A14 (q:=104) (L:=208) (by decide) hg (fun ys=>some (⟨.t [],[(0,.row 38 1 ys false false)],[0],67108864⟩:J2))),by simp⟩)
def C72:List (Nat×D3):=(77,trS (M8 (A2l 38 45) (A0g 208) (L7 38 67108864 (fun _=>.t []) T6)))::C7Y
theorem A81:C7 Tryz.prog T C72:=A80.cons (J8 D6) (N5 D6 D2N)
def K46:KC:=E4 Tryz.prog T C72 false FU 4
theorem D9D:K46.nat:=A8 A81 4
theorem D9E:W6 Tryz.prog T K46.dir:=B6 follows B4 A81 4
end Go.Proofs.YteoeonfajlnggaaGreat
namespace Go.Proofs.YteoeonfajlnggaaGreat
open Go.Vm
set_option maxRecDepth 100000
set_option linter.unusedVariables false
set_option linter.constructorNameAsVariable false
theorem D7M (xs:List V):(P1 Tryz.prog T K46 (fun _ _=>none) false FU 61).dir [.o 0 1,.f 45 []] (ofL [.row 38 1 xs false false]) 1=(ln xs.length <| bif A0g 208 ⟨xs,0,(xs.length:Nat),(Wd.blen (WU (xs.length:Nat)).toNat:Nat)⟩ then some (⟨.t [],[(0,.row 38 1 (T6 ⟨xs,0,(xs.length:Nat),(Wd.blen (WU (xs.length:Nat)).toNat:Nat)⟩) false false)],[0],67108864⟩:J2) else none):=by kernel_rfl
theorem C73:R4 Tryz.prog T 61 (M8 (B4R 38 45) (fun s=>Nat.ble s.xs.length 200) (L7 38 67108864 (fun _=>.t []) (fun s=>T6 ⟨s.xs,0,(s.xs.length:Nat),(Go.Sort.bitsLen s.xs.length:Nat)⟩))).dir :=
 C9f (H0 follows B4 D9D D9E (C8 (P:=Tryz.prog) (T:=T) (f:=61)).nat C8.ok) (fun xs hg=>⟨67108864,[0],Nat.le_refl _,(D7M xs).trans (D0P hg (fun r=>(⟨.t [],[(0,.row 38 1 r false false)],[0],67108864⟩:J2))),by simp⟩)
def C74:List (Nat×D3):=(61,trS (M8 (B4R 38 45) (fun s=>Nat.ble s.xs.length 200) (L7 38 67108864 (fun _=>.t []) (fun s=>T6 ⟨s.xs,0,(s.xs.length:Nat),(Go.Sort.bitsLen s.xs.length:Nat)⟩))))::C72
theorem A82:C7 Tryz.prog T C74:=A81.cons (J8 D6) (N5 D6 C73)
def K47:KC:=E4 Tryz.prog T C74 false FU 4
theorem E0m:K47.nat:=A8 A82 4
theorem E0n:W6 Tryz.prog T K47.dir:=B6 follows B4 A82 4
end Go.Proofs.YteoeonfajlnggaaGreat
namespace Go.Proofs.YteoeonfajlnggaaGreat
open Go.RowKit Go.Shelf Go.Vm
open Go.ChangeMaps (setBlock)
set_option linter.unusedVariables false
attribute [local go_sem] Oper.semAt_some
abbrev A83:Array Value:=#[.int .u8 0,.int .u8 0,.int .u8 0,.int .u8 0,.int .u8 0,.int .u8 0,.int .u8 0,.int .u8 0,.int .u8 0,.int .u8 0,.int .u8 0,.int .u8 0,.int .u8 0,.int .u8 0,.int .u8 0,.int .u8 0,.int .u8 0,.int .u8 0,.int .u8 0,.int .u8 0,.int .u8 0,.int .u8 0,.int .u8 0,.int .u8 0,.int .u8 0,.int .u8 0,.int .u8 0,.int .u8 0,.int .u8 0,.int .u8 0,.int .u8 0,.int .u8 0,.int .u32 0]
abbrev Ent (ms:Array MapEntry):={ m:MapEntry // m∈ms.toList }
def R38 (P:Program):Prop:=(∀ w,(isAgg 38).run P w=.ok true w)∧(∀ w,(Go.sizeOf 38).run P w=.ok 33 w)
set_option maxRecDepth 100000 in
set_option maxHeartbeats 1000000 in
theorem D9k {P:Program} (mixed:P.follows .mixedOrders=true) (f62:P.funcs[62]? = some Tryz.f62) (a79:∀ w,(isAgg 79).run P w=.ok false w) (z79:∀ w,(Go.sizeOf 79).run P w=.ok 1 w) (v38:∀ w,(zeroValue 38).run P w=.ok (.agg A83) w) (r38:R38 P) (i38:(P.info? 38).map (·.size)=some 33) (t79:P.underlying 79=some (.map 38 43)) (u79:∀ w,(Go.underlying 79).run P w=.ok (.map 38 43) w) (F:Fence) (n:Nat) (h62:F.fn 62) (hro:F.round=none) (hn:1≤n) (l Bm bm clock:Nat) (ms:Array MapEntry) (hst:StB ms clock) (hks:∀ m∈ms.toList,∃ cs,m.key=.agg cs∧cs.size=33∧cs.all (·.oneCell')=true) (J Jx:List (Ent ms)→World→Prop)
  (hY:∀ pre (x:Ent ms) W,J pre W→pre.length < ms.size→YieldAt F (n - 1) P l #[x.1.key] W fun e W'=>(e=.returned (.bool true)∧J (pre++[x]) W'∧KeepsWalks W W')∨(e=.returned (.bool false)∧Jx (pre++[x]) W'))
  (W:World) (hJ:AbidesFrom W.heap.size J) (hm:W.cell? ⟨Bm,0,none⟩=some (.map (some bm))) (hb:W.heap[bm]? = some (.map ms clock)) (h0:J [] W) :
  CallsIn F n P 62 #[.func (.yield l) #[] #[],.pointer (some ⟨Bm,0,none⟩)] W fun e W'=>(∃ v,e=.returned v)∧((∃ xs:List (Ent ms),(xs.map Subtype.val).Perm ms.toList∧J xs W')∨(∃ pre,Jx pre W')):=by
 have hrg:=run_range_map (P:=P) W 79 _ _ bm ms clock t79 hb
 have hbm:bm < W.heap.size:=(Array.getElem?_eq_some_iff.1 hb).1
 refine callsIn_of_wp f62 rfl h62 ?_ hro
 simp only [Tryz.ntmps62,List.size_toArray,E0z,List.length_nil,Nat.reduceAdd,Nat.reduceSub,Array.replicate_succ,Array.replicate_zero,List.push_toArray,List.append_toArray,List.nil_append,List.cons_append]
 gi_wp2
 gi_loopw [3] (fun _ wr=>∃ (seen:Array Nat) (xs:List (Ent ms)),wr.heap[W.heap.size]? = some (.mapIter (some bm) clock seen clock)∧wr.heap[bm]? = some (.map ms clock)∧(xs.map Subtype.val).Perm (ms.toList.filter fun m=>seen.toList.contains m.born)∧J xs wr) (fun _ wr=>(leftOf ms (wr.iterSeen W.heap.size)).size)
 case atStart =>
  refine ⟨#[],[],heap_alloc_new _ _,(heap_alloc_old _ _ hbm).trans hb,?_,hJ [] W _ none h0 (World.grownBy_alloc W _ none) (fun r e=>by cases e)⟩
  rw [List.filter_eq_nil_iff.2 (fun m _=>by simp)]
  exact List.Perm.refl _
 case round =>
  obtain ⟨seen,xs,hit,hb1,hse,hJx⟩:=hrel
  rcases run_next_at (P:=P) wr 0 W.heap.size bm clock clock seen ms clock hit hb1 hst.1 (Nat.le_refl _) with ⟨h0,hrun⟩ | ⟨e,he,w1,hw1,hrun⟩
  ·have hnx:∀ ty,(Instr.next (.pointer (some ⟨W.heap.size,0,none⟩)) false ty).run P wr=_:=fun _=>hrun
   gi_wp2
   go_end0
   refine ⟨⟨_,rfl⟩,.inl ⟨xs,?_,hJx⟩⟩
   rwa [List.filter_eq_self.2 (fun m hm=>List.contains_iff_mem.2 (by have:=all_seen ms seen h0 m hm;simpa using this))] at hse
  ·have hnx:∀ ty,(Instr.next (.pointer (some ⟨W.heap.size,0,none⟩)) false ty).run P wr=_:=fun _=>hrun
   generalize hw2:setBlock w1 W.heap.size (.mapIter (some bm) clock (seen.push e.born) clock)=w2 at hnx
   have hw1h:w1.heap=wr.heap:=by rcases hw1 with rfl | rfl<;>rfl
   have hwr:W.heap.size < wr.heap.size:=(Array.getElem?_eq_some_iff.1 hit).1
   have hsz2:w2.heap.size=wr.heap.size:=by rw [← hw2,← hw1h];simp [setBlock]
   have hit2:w2.heap[W.heap.size]? = some (.mapIter (some bm) clock (seen.push e.born) clock):=by
    rw [← hw2];simp [setBlock,hw1h,hwr]
   have hne2:∀ k,k≠W.heap.size→w2.heap[k]? = wr.heap[k]? := fun k hk=>by rw [← hw2,← hw1h];simp [setBlock,Ne.symm hk]
   have hb2:w2.heap[bm]? = some (.map ms clock):=(hne2 bm (by omega)).trans hb1
   have hg2:wr.grownBy w2 (some W.heap.size):=by
    refine ⟨?_,?_,?_,by rw [hsz2];exact Nat.le_refl _,fun k hk hne=>hne2 k (fun q=>hne (by rw [q]))⟩<;>(rw [← hw2];rcases hw1 with rfl | rfl<;>rfl)
   have hlt2:W.heap.size < w2.heap.size:=by omega
   have hbm2:bm < w2.heap.size:=(Array.getElem?_eq_some_iff.1 hb2).1
   clear hsz2 hne2 hw1h hw2 hrun
   have hen:=run_entry_at (P:=P) w2 W.heap.size bm clock seen ms clock e hit2 hb2 (mem_left he).1 hst.2
   obtain ⟨cs,hk,hc33,hone⟩:∃ cs,e.key=.agg cs∧cs.size=33∧cs.all (·.oneCell')=true:=hks e (mem_left he).1
   rw [hk] at hen
   have hnb:e.born ∉ seen.toList:=by
    have:=(mem_left he).2
    simpa using this
   have hf1:=B4Q (fun m:MapEntry=>m.born) (fun m=>seen.toList.contains m.born) (fun m=>(seen.push e.born).toList.contains m.born) ms.toList e hst.2 (mem_left he).1 (by
     cases hc:seen.toList.contains e.born with
     | false=>rfl
     | true=>exact absurd (List.contains_iff_mem.1 hc) hnb) (fun y _=>by
     rw [Bool.eq_iff_iff]
     simp)
   have hxs:xs.length < ms.size:=by
    have h1:=hse.length_eq
    have h2:=hf1.length_eq
    have h3:=List.length_filter_le (fun m:MapEntry=>(seen.push e.born).toList.contains m.born) ms.toList
    rw [E0v] at h1
    simp only [E0z,E0y] at h2 h3
    omega
   have hJ2:J xs w2:=hJ xs wr w2 _ hJx hg2 (fun r q=>by cases q;exact ⟨Nat.le_refl _,_,hit,rfl⟩)
   have hJ3:J xs (w2.alloc (.cells cs 38)):=hJ xs w2 _ none hJ2 (World.grownBy_alloc w2 _ none) (fun r q=>by cases q)
   obtain ⟨fn,tmps,assign,body,hy,hR⟩:=hY xs ⟨e,(mem_left he).1⟩ _ hJ3 hxs
   dsimp only at hy
   rw [hk] at hy
   gi_wp2
   ·have hsto:=run_storeCells_new (P:=P) w2 38 A83 cs (by rw [hc33];exact i38) (by rw [hc33];rfl) hone
    simp only [r38.2,Result.andThen,↓reduceIte,hsto]
    rw [Oper.uponIn_skip]
    clear hsto
    gi_wp2
    have hlod:=run_loadCellsFrom_new (P:=P) w2 38 cs 33 hc33
    simp only [r38.1,r38.2,Result.andThen,↓reduceIte,hlod]
    rw [Oper.uponIn_value]
    clear hlod
    gi_wp2
    refine hR.mono ?_
    rintro e3 W3 (⟨rfl,hJ3,hk3⟩ | ⟨rfl,hJx3⟩)
    ·have hit3:W3.heap[W.heap.size]? = some (.mapIter (some bm) clock (seen.push e.born) clock):=hk3.same _ _ ((heap_alloc_old _ _ hlt2).trans hit2) rfl
     have hb3:W3.heap[bm]? = some (.map ms clock):=hk3.same _ _ ((heap_alloc_old _ _ hbm2).trans hb2) rfl
     gi_wp2
     go_roundw
     case rel=>exact ⟨seen.push e.born,xs++[⟨e,(mem_left he).1⟩],hit3,hb3,by
      rw [List.map_append,List.map_cons,List.map_nil]
      exact (List.perm_append_comm.trans (List.Perm.cons _ hse)).trans hf1.symm,hJ3⟩
     case measure =>
      have e1:W3.iterSeen W.heap.size=seen.push e.born:=by unfold World.iterSeen;rw [hit3]
      have e2:wr.iterSeen W.heap.size=seen:=by unfold World.iterSeen;rw [hit]
      rw [e1,e2]
      exact left_shrinks ms seen e he
    ·gi_wp2
     refine bodyPost_ret (results_none rfl _ _ _) rfl ?_
     exact ⟨⟨_,rfl⟩,.inr ⟨_,hJx3⟩⟩
/-! ### Operations whose run is told -/
section
variable {P:Program} {F:Fence} {n:Nat} {ops:Array Oper} {rest:List Oper} {o:Oper} {a:Act} {Q:Go.Exit→Act→World→Prop} {w w':World} {v:Value}
theorem A9A (hg:o.guard=none) (t:TypeId) (x:Operand) (hop:o.op=Op.load t x) (hrun:(Instr.loadAt t (a.eval x)).run P w=.ok v w') (hK:wpListIn F n P ops Q rest (a.put o.dst v) w'):wpListIn F n P ops Q (o::rest) a w:=by
 refine wpListIn_plain hg fun K hK'=>?_
 unfold Oper.wpIn
 refine ⟨by simp [Oper.about,hop],?_⟩
 rw [Oper.semAt_plain F _ _ (by rw [hop];intro c hc;cases hc)]
 simp [execOp,hop,hrun,Result.andThen]
 exact hK' _ _ hK
theorem C75 (hg:o.guard=none) (t:TypeId) (x y:Operand) (hop:o.op=Op.store t x y) (hrun:(Instr.storeAt t (a.eval x) (a.eval y)).run P w=.ok () w') (hK:wpListIn F n P ops Q rest (a.put o.dst undef) w'):wpListIn F n P ops Q (o::rest) a w:=by
 refine wpListIn_plain hg fun K hK'=>?_
 unfold Oper.wpIn
 refine ⟨by simp [Oper.about,hop],?_⟩
 rw [Oper.semAt_plain F _ _ (by rw [hop];intro c hc;cases hc)]
 simp [execOp,hop,hrun,Result.andThen]
 exact hK' _ _ hK
theorem A3f (hg:o.guard=none) (t:TypeId) (x:Operand) (hop:o.op=Op.buildSlice t 1 #[(0,x)]) (hrun:(Instr.buildSlice t 1 #[(0,a.eval x)]).run P w=.ok v w') (hK:wpListIn F n P ops Q rest (a.put o.dst v) w'):wpListIn F n P ops Q (o::rest) a w:=by
 refine wpListIn_plain hg fun K hK'=>?_
 unfold Oper.wpIn
 refine ⟨by simp [Oper.about,hop],?_⟩
 rw [Oper.semAt_plain F _ _ (by rw [hop];intro c hc;cases hc)]
 simp [execOp,hop,hrun,Result.andThen]
 exact hK' _ _ hK
end
def B4z (m:MapEntry):Array Value:=m.key.cells
def cellsOf {ms:Array MapEntry} (xs:List (Ent ms)):List Value:=xs.flatMap fun m=>(B4z m.1).toList
def D9F (p:Prop):Prop:=p
theorem B4A {p:Prop} (h:D9F p):p:=h
theorem D2O {P:Program} (t88:P.underlying 88=some (.slice 38)) (r38:R38 P) {z:Array Value} (hz:z.size=33) (v38:∀ w,(zeroValue 38).run P w=.ok (.agg z) w) (W:World) {cs:Array Value} (hc33:cs.size=33) :
  (Instr.buildSlice 88 1 #[(0,.agg cs)]).run P W=.ok (.slice (some ⟨W.heap.size,0,none⟩) 1 1) (W.alloc (.cells cs 38)):=by
 obtain ⟨cells',g1,g2⟩:=A8P (place:=fun i=>some (i * 33,33)) (i:=0) (off:=0) (size:=33) (cells:=(Array.range (1 * 33)).map (z[· % z.size]!)) (v:=.agg cs) (rest:=[]) rfl hc33 (by simp)
 have e:cells'=cs:=by
  have:cells'.toList=cs.toList:=by
   rw [g2]
   simp [Value.cells]
  exact Array.toList_inj.1 this
 subst e
 have g1:Instr.fill (fun i=>some (i * 33,33)) ((Array.range (1 * 33)).map (z[· % z.size]!)) [(0,.agg cells')]=some cells':=g1
 have hu:=A5 (w:=W) t88
 have hs:=r38.2 W
 have hv:=v38 W
 clear r38 v38
 simp only [Instr.buildSlice,Sem.run_bind,hu,Result.andThen_ok,hs,hv,Sem.run_pure,Value.cells]
 rw [if_neg (by decide),if_neg (by decide)]
 simp only [Sem.run_bind,Sem.run_pure,Result.andThen_ok,hv,Value.cells,g1,newRow]
 rfl
theorem A9B {W W':World} (h:KeepsOthers W W') (hs:W.heap.size≤W'.heap.size):KeepsWalks W W':=⟨hs,fun k o hk ho=>h.same k o hk (Obj.not_cells_of_walk ho)⟩
set_option maxRecDepth 100000 in
set_option maxHeartbeats 1000000 in
theorem D2P {P:Program} (mixed:P.follows .mixedOrders=true) (f62:P.funcs[62]? = some Tryz.f62) (f76:P.funcs[76]? = some Tryz.f76) (e62:∀ args w,(callFunc 62 args).run P w=.ok (.enter 62 args) w)
  (a79:∀ w,(isAgg 79).run P w=.ok false w) (z79:∀ w,(Go.sizeOf 79).run P w=.ok 1 w) (v38:∀ w,(zeroValue 38).run P w=.ok (.agg A83) w) (r38:R38 P) (i38:(P.info? 38).map (·.size)=some 33) (t79:P.underlying 79=some (.map 38 43)) (u79:∀ w,(Go.underlying 79).run P w=.ok (.map 38 43) w)
  (a88:∀ w,(isAgg 88).run P w=.ok false w) (z88:∀ w,(Go.sizeOf 88).run P w=.ok 1 w) (t88:P.underlying 88=some (.slice 38)) (t38:∃ fs,P.underlying 38=some (.struct fs)) (j38:(P.info? 38).map (fun i=>(i.zero,i.size,i.bytes))=some (some (.agg A83),33,36))
  (F:Fence) (n:Nat) (h62:F.fn 62) (h76:F.fn 76) (hro:F.round=none) (hn:2≤n) (Bm bm clock:Nat) (ms:Array MapEntry) (hst:StB ms clock) (hks:∀ m∈ms.toList,∃ cs,m.key=.agg cs∧cs.size=33∧cs.all (·.oneCell')=true) (hlen:ms.size≤1000000)
  (w:World) (hm:w.cell? ⟨Bm,0,none⟩=some (.map (some bm))) (hb:w.heap[bm]? = some (.map ms clock)) :
  CallsIn F n P 76 #[.slice none 0 0,.func (.func 62) #[] #[.pointer (some ⟨Bm,0,none⟩)]] w fun e w'=>∃ (v:Value) (xs:List (Ent ms)),e=.returned v∧(xs.map Subtype.val).Perm ms.toList∧w'.ownsRow w.heap.size 38 33 v xs.length (cellsOf xs)∧(v=.slice none 0 0↔xs=[])∧Below w.heap.size w w':=by
 have h1:1≤n:=by omega
 have hBm:Bm < w.heap.size:=by
  unfold World.cell? at hm
  cases hq:w.heap[Bm]? with
  | none=>simp [hq] at hm
  | some o=>exact (Array.getElem?_eq_some_iff.1 hq).1
 have hbm:bm < w.heap.size:=(Array.getElem?_eq_some_iff.1 hb).1
 obtain ⟨fs38,t38⟩:=t38
 obtain ⟨i0,hi,hz0,hz1,hz2⟩:=info_parts j38
 refine callsIn_of_wp_marks f76 rfl h76 ?_ hro
 simp only [Tryz.ntmps76,List.size_toArray,E0z,List.length_nil,Nat.reduceAdd,Nat.reduceSub,Array.replicate_succ,Array.replicate_zero,List.push_toArray,List.append_toArray,List.nil_append,List.cons_append]
 gi_wp2
 have hs0:(w.alloc (.cells #[.slice none 0 0] 88)).heap.size=w.heap.size+1:=by simp
 have hseq:SeqStopsK F (n - 1) P 62 #[.pointer (some ⟨Bm,0,none⟩)] (fun x:Ent ms=>#[x.1.key]) KeepsWalks (fun xs=>(xs.map Subtype.val).Perm ms.toList) (fun _=>True) ms.size (w.alloc (.cells #[.slice none 0 0] 88)):=by
  intro l J Jx W hW hJ hJx hY h0
  have hm':W.cell? ⟨Bm,0,none⟩=some (.map (some bm)):=(hW.cell (p:=⟨Bm,0,none⟩) (show Bm < _ by rw [hs0];omega)).trans ((World.cell?_of_block (heap_alloc_old _ _ hBm)).trans hm)
  have hb':W.heap[bm]? = some (.map ms clock):=(hW.block bm (by rw [hs0];omega)).trans ((heap_alloc_old _ _ hbm).trans hb)
  refine (D9k mixed f62 a79 z79 v38 r38 i38 t79 u79 F (n - 1) h62 hro (by omega) l Bm bm clock ms hst hks J Jx hY W hJ hm' hb' h0).mono ?_
  rintro e W' ⟨h1,h2 | ⟨pre,h2⟩⟩
  ·exact ⟨h1,.inl h2⟩
  ·exact ⟨h1,.inr ⟨pre,trivial,h2⟩⟩
 have hfl:∀ {W W':World} {row:Option Nat} {Bx:Nat} {cs:Array Value} {t:TypeId},W.heap[Bx]? = some (.cells cs t (0,0))→W.grownBy W' row→(∀ r,row=some r→∃ o:Obj,W.heap[r]? = some o∧o.isCells=false)→W'.heap[Bx]? = some (.cells cs t (0,0)):=by
  intro W W' row Bx cs t hB hg hr
  refine (hg.block Bx (Array.getElem?_eq_some_iff.1 hB).1 (fun e=>?_)).trans hB
  obtain ⟨o,ho,hc⟩:=hr Bx e.symm
  rw [hB] at ho;cases ho;cases hc
 refine wpIn_rangeFunc_ownH hro h1 (gf:=62) (lb:=#[.pointer (some ⟨Bm,0,none⟩)]) rfl h62 e62 hseq walksK_t walksK_b (Below.refl _ _) (fun _=>rfl)
  (fun pre W=>(∃ v,Boxed W w.heap.size 88 v∧W.ownsRow w.heap.size 38 33 v pre.length (cellsOf pre)∧(v=.slice none 0 0↔pre=[]))∧Below w.heap.size w W)
  (fun _ _ _=>False)
  (OwnFrom.and (Own.from (holdsRow_own w.heap.size w.heap.size 88 38 33 (fun pre:List (Ent ms)=>pre.length) (fun pre=>cellsOf pre) (fun pre v=>(v=.slice none 0 0↔pre=[]))) _) (ownFrom_below (Nat.le_refl _) (by rw [hs0];omega)))
  (fun _ _ _ _ _ h _ _=>h)
  ⟨⟨_,Boxed.new w 88 _,World.ownsRow_nil _ _ _ _,by simp⟩,(Below.refl _ w).alloc (Nat.le_refl _) _⟩
  (fun x a' W=>∃ Bx,w.heap.size+1≤Bx∧W.heap[Bx]? = some (.cells (B4z x.1) 38 (0,0))∧a'={ tmps:=#[.slice none 0 0,.func (.func 62) #[] #[.pointer (some ⟨Bm,0,none⟩)],.pointer (some ⟨w.heap.size,0,none⟩),undef,.slice none 0 0,.pointer (some ⟨Bx,0,none⟩),.func (.func 62) #[] #[.pointer (some ⟨Bm,0,none⟩)],.agg (B4z x.1),undef,undef,undef,undef,undef],defers:=[] })
  (fun x a' s W W' row ⟨Bx,h1,h2,h3⟩ hg hr=>⟨Bx,h1,hfl h2 hg (fun r e=>(hr r e).2),h3⟩)
  ?assign ?body ?done ?stop
 case assign =>
  rintro l pre x W K ⟨⟨v,hv,hrow,hnl⟩,hB⟩ hK
  obtain ⟨cs,hk,hc33,hone⟩:=hks x.1 x.2
  have hbs:=hB.size
  have hci:(P.info? 38).map (·.size)=some cs.size:=by rw [hc33];exact i38
  have hcz:A83.size=cs.size:=by rw [hc33];rfl
  have hkc:B4z x.1=cs:=by rw [B4z,hk];rfl
  gi_wp2
  have hsto:=run_storeCells_new (P:=P) W 38 A83 cs hci hcz hone
  simp only [r38.2,Result.andThen,↓reduceIte,hsto]
  rw [Oper.uponIn_skip]
  gi_wp2
  refine hK _ _ ((KeepsOthers.alloc _ _).from _) (KeepsWalks.alloc _ _) ⟨⟨v,hv.alloc _,hrow.alloc _,hnl⟩,hB.alloc hbs _⟩ ⟨W.heap.size,?_,?_,?_⟩
  ·have:=hv.lt;omega
  ·rw [hkc];exact World.alloc_heap_new W _
  ·rw [hkc];rfl
 case body =>
  rintro l pre x a' W hl ⟨r,hr⟩ ⟨⟨v,hv,hrow,hnl⟩,hB⟩ ⟨Bx,hBx,bX,rfl⟩ hlt
  obtain ⟨cs,hk,hc33,hone⟩:=hks x.1 x.2
  have hci:(P.info? 38).map (·.size)=some cs.size:=by rw [hc33];exact i38
  have hkc:B4z x.1=cs:=by rw [B4z,hk];rfl
  rw [hkc] at bX
  have hbs:=hB.size
  have hcl:=hv.cell
  have hl38:(Instr.loadAt 38 (.pointer (some ⟨Bx,0,none⟩))).run P W=.ok (.agg cs) W:=by
   simp only [Instr.loadAt,Instr.sureAddr,Sem.run_bind,Sem.run_pure,Result.andThen]
   exact run_loadVar_row W Bx 38 38 cs (0,0) _ bX t38 rfl hci
  have hml:1000001≤maxLen:=by decide
  have hone':∀ u∈cs.toList,u.oneCell'=true:=by
   intro u hu
   exact (Array.all_eq_true_iff_forall_mem.1 hone) u (Array.mem_toList_iff.1 hu)
  gi_wp2_with (first
   | (refine A9A rfl 38 _ rfl hl38 ?_)
   | (refine A3f rfl 88 _ rfl (D2O t88 r38 rfl v38 _ hc33) ?_)
   | (gi_at_builtin;refine B4A ?_)
   | gi_in)
  show wpListIn _ _ _ _ _ _ _ _
  refine wpListIn_append_own _ rfl _ _ 88 rfl w.heap.size 38 i0 (.agg A83) 33 36 t88 hi hz0 hz1 hz2 rfl (by decide) _ _ _ rfl (hrow.alloc _) ⟨W.heap.size,0,none⟩ 1 1 cs.toList rfl (by rw [E0y,hc33]) ?_ hone' (by omega) (by omega) (by simp;omega) ?_
  ·intro j u hj
   have hadd:(⟨W.heap.size,0,none⟩:Addr).add j=⟨W.heap.size,j,none⟩:=by unfold Addr.add;split<;>simp_all
   rw [hadd,cell_of_row _ _ j cs 38 (0,0) (World.alloc_heap_new W _)]
   simpa using hj
  ·intro v' w1 hown' hgrow hnil
   obtain ⟨g',cap',rfl⟩:=ownsRow_succ hown'
   obtain ⟨hv1,hv2,hr2,hk2,hb2⟩:=hv.appended (by decide) hrow hbs (Nat.le_refl _) hown' hgrow
   have hc1:=hv1.cell
   have hf1:=hv1.frozen
   gi_wp2
   refine ⟨hk2.from _,A9B hk2 hk2.size,⟨_,hv2,?_,by simp⟩,hB.trans hb2⟩
   have e1:(pre++[x]).length=pre.length+1:=by simp
   have e2:cellsOf (pre++[x])=cellsOf pre++cs.toList:=by simp [cellsOf,hkc]
   rw [e1,e2];exact hr2
 case done =>
  rintro D ys W hD hS ⟨⟨v,hv,hrow,hnl⟩,hB⟩ hK
  have hcl:=hv.cell
  gi_wp2
  refine ⟨by simp,.inl ⟨_,_,rfl,run_takeDeferred hK,?_⟩⟩
  exact ⟨_,results_tmp rfl _ _ _,v,ys,rfl,hS,ownsRow_putObj hrow _ hK rfl,hnl,hB.trans (belowK_b (w:=w) (Nat.le_refl _) W D _ _ (by rw [hs0] at hD;omega) hK rfl rfl)⟩
 case stop =>
  rintro D c pre W _ _ h _
  exact h.elim
end Go.Proofs.YteoeonfajlnggaaGreat
namespace Go.Proofs.YteoeonfajlnggaaGreat
open Go.RowKit Go.Shelf Go.Vm
set_option linter.unusedVariables false
attribute [local go_sem] Oper.semAt_some
set_option maxRecDepth 100000 in
theorem C76 (Bm bm clock:Nat) (ms:Array MapEntry) (hst:StB ms clock) (hks:∀ m∈ms.toList,∃ cs,m.key=.agg cs∧cs.size=33∧cs.all (·.oneCell')=true) (hlen:ms.size≤1000000)
  (w:World) (hm:w.cell? ⟨Bm,0,none⟩=some (.map (some bm))) (hb:w.heap[bm]? = some (.map ms clock)) :
  Calls Tryz.prog 60 #[.func (.func 62) #[] #[.pointer (some ⟨Bm,0,none⟩)]] w fun e w'=>∃ (v:Value) (xs:List MapEntry),e=.returned v∧xs.Perm ms.toList∧w'.ownsRow w.heap.size 38 33 v xs.length (xs.flatMap fun m=>m.key.cells.toList)∧(v=.slice none 0 0↔xs=[])∧Below w.heap.size w w':=by
 have hap:=(callsIn_wide (n:=6)).1 (D2P (P:=Tryz.prog) (by kernel_rfl) Tryz.func62 Tryz.func76 (enters_of Tryz.func62 (by kernel_rfl) rfl) Tryz.isAgg79 Tryz.sizeOf79 Tryz.zeroValue38 ⟨Tryz.isAgg38,Tryz.sizeOf38⟩ (by kernel_rfl) Tryz.underlying79 Tryz.runUnderlying79
  Tryz.isAgg88 Tryz.sizeOf88 Tryz.underlying88 ⟨_,Tryz.underlying38⟩ (by kernel_rfl) Fence.wide 6 trivial trivial rfl (by omega) Bm bm clock ms hst hks hlen w hm hb)
 go_enter Tryz.func60,Tryz.ntmps60
 go_wp2_with (go_at_call 76;refine hap.mono ?_;rintro e w' ⟨v,xs,rfl,h1,h2,h3,h4⟩)
 go_ret
 refine ⟨_,xs.map Subtype.val,rfl,h1,?_,?_,h4⟩
 ·rw [E0v]
  have:(xs.map Subtype.val).flatMap (fun m=>m.key.cells.toList)=cellsOf xs:=by
   unfold cellsOf B4z
   rw [List.flatMap_map]
  rw [this];exact h2
 ·show v=_↔_;rw [h3];exact List.map_eq_nil_iff.symm
set_option maxRecDepth 100000 in
theorem D2Q (w:World) (seq ord:Value) (R1 R2:Value→World→Prop) (h60:Calls Tryz.prog 60 #[seq] w fun e w'=>∃ v,e=.returned v∧R1 v w')
  (h61:∀ v w',R1 v w'→Calls Tryz.prog 61 #[v,ord] w' fun e w''=>(∃ u,e=.returned u)∧R2 v w''):Calls Tryz.prog 43 #[seq,ord] w fun e w'=>∃ v,e=.returned v∧R2 v w':=by
 go_enter Tryz.func43,Tryz.ntmps43
 go_wp2_with (first
  | (go_at_call 60;refine h60.mono ?_;rintro e w' ⟨v,rfl,h⟩)
  | (go_at_call 61;refine (h61 _ _ h).mono ?_;rintro e w'' ⟨⟨u,rfl⟩,h2⟩))
 go_ret
 exact ⟨_,rfl,h2⟩
end Go.Proofs.YteoeonfajlnggaaGreat
namespace Go.Proofs.YteoeonfajlnggaaGreat
open Go.Vm Go.RowKit Go.Proofs
set_option maxRecDepth 100000
set_option linter.unusedVariables false
theorem D2R:(P1 Tryz.prog T K37 (fun _ _=>none) false FU 61).dir [.o 0 1,.f 45 []] (ofL [.row 38 1 [] true false]) 1=some (⟨.t [],[(0,.row 38 1 [] true false)],[0],1⟩:J2):=by kernel_rfl
theorem D2S:R4 Tryz.prog T 61 (sfN 38 45 1).dir :=
 A6s (H0 follows B4 A04 A05 (C8 (P:=Tryz.prog) (T:=T) (f:=61)).nat C8.ok) (fun args of nx x hx _=>by
  unfold D0Q at hx
  split at hx<;>try (cases hx;done)
  rename_i id ver h'
  cases hg:(Nat.beq id 0&&(Nat.beq ver 1&&(Nat.beq nx 1&&Nat.beq h' 45))) with
  | false=>rw [hg] at hx;cases hx
  | true =>
  rw [hg,cond_true] at hx
  simp only [E0s] at hg
  obtain ⟨g1,g2,g3,g4⟩:=hg
  obtain rfl:=E0r g1
  obtain rfl:=E0r g2
  obtain rfl:=E0r g3
  obtain rfl:=E0r g4
  split at hx<;>try (cases hx;done)
  rename_i el v sh hof
  cases hg:(Nat.beq 38 el&&(Nat.beq v 1&&!sh)) with
  | false=>rw [hg] at hx;cases hx
  | true =>
  simp only [E0s,Bool.not_eq_true'] at hg
  obtain ⟨g1,g2,rfl⟩:=hg
  obtain rfl:=E0r g1
  obtain rfl:=E0r g2
  exact ⟨1,[0],_,Nat.le_refl _,D2R,A4d hof (by simp)⟩)
theorem D7N {α:Type} {o:Option α} {p:α→Bool} (h:o.any p=true):∃ k,o=some k∧p k=true:=by
 cases o with
 | none=>cases h
 | some k=>exact ⟨k,rfl,h⟩
theorem D9l:D39 Tryz.prog 43 61 62 45 38:=fun Bm bm clock ms w R2 hst hks hlen hm hb h =>
 D2Q w _ _ (fun v w'=>∃ xs:List MapEntry,xs.Perm ms.toList∧w'.ownsRow w.heap.size 38 33 v xs.length (xs.flatMap fun m=>m.key.cells.toList)∧(v=.slice none 0 0↔xs=[])∧Below w.heap.size w w') R2
  ((C76 Bm bm clock ms hst hks hlen w hm hb).mono fun e w' ⟨v,xs,h0,h1,h2,h3,h4⟩=>⟨v,h0,xs,h1,h2,h3,h4⟩)
  (fun v w' ⟨xs,h1,h2,h3,h4⟩=>h v xs w' h1 h2 h3 h4)
theorem B6L:J0 Tryz.prog T 43 (A5r 62 45 38 67108864).dir :=
 C0f B4 D9l C73 D2S (by decide) (by decide) (Nat.le_refl _) (by decide) (by kernel_rfl) (by kernel_rfl) (D7N (by kernel_rfl)) (fun args w=>enters_of Tryz.func43 (by kernel_rfl) rfl args w) (fun args w=>enters_of Tryz.func61 (by kernel_rfl) rfl args w)
end Go.Proofs.YteoeonfajlnggaaGreat
namespace Go.Proofs.YteoeonfajlnggaaGreat
open Go.Vm Go.Shelf Go.Proofs
set_option maxRecDepth 100000
set_option linter.unusedVariables false
def Tryz.cloneM_ren:Go.Shelf.Ren:=⟨fun | 5=>42 | 7=>59 | n=>n,fun | 23=>79 | 25=>38 | 3=>43 | 4=>4 | 20=>20 | n=>n,fun | n=>n⟩
theorem Tryz.cloneM:Go.Proofs.SlLaysW.n5 Tryz.prog Tryz.cloneM_ren:={
 mixed:=by kernel_rfl
 f5:=⟨Tryz.f42.name,by decide,Tryz.func42.trans (congrArg some (by kernel_rfl))⟩
 f7:=Tryz.func59.trans (congrArg some (by kernel_rfl))
 t4:=Tryz.underlying4
 a4:=Tryz.isAgg4
 z4:=Tryz.sizeOf4
 v4:=Tryz.zeroValue4
 t20:=Tryz.underlying20
 a20:=Tryz.isAgg20
 z20:=Tryz.sizeOf20
 v20:=Tryz.zeroValue20
 t23:=Tryz.underlying79
 a23:=Tryz.isAgg79
 z23:=Tryz.sizeOf79
 v23:=Tryz.zeroValue79 }
theorem D2T:C5R Tryz.prog 42:=fun b es clock w hb=>AnyW.maps_Clone Tryz.cloneM b es clock w hb
theorem C77:J0 Tryz.prog T 42 B1X:=C0m D2T (fun args w=>enters_of Tryz.func42 (by kernel_rfl) rfl args w)
def D4u:List (Nat×D3):=(43,A5r 62 45 38 67108864)::C74
theorem C78:C7 Tryz.prog T D4u:=A82.cons (B5H _ _ _ _) B6L
def C79:List (Nat×D3):=(42,A55 B1X)::D4u
theorem A84:C7 Tryz.prog T C79:=C78.cons (A3l _) (by rw [A3m];exact C77)
def K49:KC:=E4 Tryz.prog T C79 false FU 4
theorem D9G:K49.nat:=A8 A84 4
theorem D9H:W6 Tryz.prog T K49.dir:=B6 follows B4 A84 4
end Go.Proofs.YteoeonfajlnggaaGreat
namespace Go.Proofs.YteoeonfajlnggaaGreat
open Go.Vm
set_option maxRecDepth 100000
set_option linter.unusedVariables false
set_option linter.constructorNameAsVariable false
def B8G:D0T→Vm.St
 | .m r l n i=>⟨[(3,.p 0 38 []),(4,.i .i64 0),(7,.v 22 l),(8,.i .i64 n),(9,.i .i64 i)],(.n (some (.box 38 (.v 38 r) false)) .e .e),[],1,some []⟩
def D4v (R:Type) (kx:Exit→Vm.St→Option R):D6E→Option R
 | .o r l n i=>kx (.exit 0) { B8G (.m r l n i) with nx:=64 }
 | .r r l n i a=>kx (.ret) ⟨[(3,.p 0 38 []),(4,.i .i64 a),(7,.v 22 l),(8,.i .i64 n),(9,.i .i64 i)],(.n (some (.box 38 (.v 38 r) false)) .e .e),[],64,some []⟩
def B6M:Vm.St→Option D0T
 | ⟨[(3,.p 0 38 []),(4,.i .i64 0),(7,.v 22 l),(8,.i .i64 n),(9,.i .i64 i)],(.n (some (.box 38 (.v 38 r) false)) .e .e),[],1,some []⟩=>some (.m r l n i)
 | _=>none
theorem C1h:J7 B6M B8G:=by
 intro _ _ h
 unfold B6M at h
 split at h<;>first | (cases h;rfl) | cases h
theorem D2U:E7 T K49 (fun _=>none) (nT 20) (cT 20 0) 0 [999999,3,4,7,8,9] 64 B8G C5y D4v:=by
 intro R of x K kx
 cases x<;>kernel_rfl
def D7O:LS:=D9 T K49 (fun _=>none) (nT 20) (cT 20 0) 0 [999999,3,4,7,8,9] 64 B6M C5y D4v
theorem B8H:B8 Tryz.prog T (nT 20) 0 (cT 20 0) D7O :=
 B1 follows B4 D9G D9H A6 (A1 _) B8G C1h D2U
def C8a:Nat→LC:=atN 0 [(2,D7O)]
theorem C8b:F4 Tryz.prog T 20 C8a:=D1 0 (List.forall_mem_cons.2 ⟨B8H.1,fun _ h=>by cases h⟩) 1 (by kernel_rfl) ⟨trivial,T9 (s0:=D7O) (by kernel_rfl) B8H⟩
theorem D2V (l r:V):F0 Tryz.prog T K49 C8a false FU 20 (List Rs) (L6 T [22,38] [l,r]) (fun _=>none) 0 (fun out=>P2 T true [.d 3] out)=fdG 3 l r:=by kernel_rfl
def C8c:List (Nat×D3):=(20,H5 T true [22,38] (gF B3s (fdr 3)))::C79
theorem A85:C7 Tryz.prog T C8c:=by
 refine D5 (sh:=true) (rk:=[.d 3]) (d:=4) (fu:=FU) (Lo:=C8a) (ds:=[.slice R7,A4F]) follows B4 A84 (by kernel_rfl) C8b 40 (by kernel_rfl) (fun xs hd hg=>?_)
 obtain ⟨a,b,rfl,ha,hb⟩:=A3Q hd
 exact (D2V a b).trans (D03 hg)
def K50:KC:=E4 Tryz.prog T C8c false FU 4
theorem D9I:K50.nat:=A8 A85 4
theorem D9J:W6 Tryz.prog T K50.dir:=B6 follows B4 A85 4
def B8I:D0U→Vm.St
 | .m r xs l n i=>⟨[(3,.p 0 38 []),(5,.o 1 1),(9,.v 22 l),(10,.i .i64 n),(11,.i .i64 i)],(.n (some (.box 38 (.v 38 r) false)) (.n (some (.row 45 1 xs false false)) .e .e) .e),[],2,some []⟩
def D4w (R:Type) (kx:Exit→Vm.St→Option R):D6F→Option R
 | .o r xs l n i=>kx (.exit 0) { B8I (.m r xs l n i) with nx:=64 }
def B6N:Vm.St→Option D0U
 | ⟨[(3,.p 0 38 []),(5,.o 1 1),(9,.v 22 l),(10,.i .i64 n),(11,.i .i64 i)],(.n (some (.box 38 (.v 38 r) false)) (.n (some (.row 45 1 xs false false)) .e .e) .e),[],2,some []⟩=>some (.m r xs l n i)
 | _=>none
theorem C1i:J7 B6N B8I:=by
 intro _ _ h
 unfold B6N at h
 split at h<;>first | (cases h;rfl) | cases h
theorem D2W:E7 T K50 (fun _=>none) (nT 40) (cT 40 0) 0 [999999,3,5,9,10,11] 64 B8I C5A D4w:=by
 intro R of x K kx
 cases x<;>kernel_rfl
def D7P:LS:=D9 T K50 (fun _=>none) (nT 40) (cT 40 0) 0 [999999,3,5,9,10,11] 64 B6N C5A D4w
theorem B8J:B8 Tryz.prog T (nT 40) 0 (cT 40 0) D7P :=
 B1 follows B4 D9I D9J A6 (A1 _) B8I C1i D2W
def C8d:Nat→LC:=atN 0 [(3,D7P)]
theorem C8e:F4 Tryz.prog T 40 C8d:=D1 0 (List.forall_mem_cons.2 ⟨B8J.1,fun _ h=>by cases h⟩) 1 (by kernel_rfl) ⟨trivial,T9 (s0:=D7P) (by kernel_rfl) B8J⟩
theorem D2X (l r:V):F0 Tryz.prog T K50 C8d false FU 40 (List Rs) (L6 T [22,38] [l,r]) (fun _=>none) 0 (fun out=>P2 T true [.d 22] out)=woG 22 l r:=by kernel_rfl
def C8f:List (Nat×D3):=(40,H5 T true [22,38] (gF B3s (wor 22)))::C8c
theorem A86:C7 Tryz.prog T C8f:=by
 refine D5 (sh:=true) (rk:=[.d 22]) (d:=4) (fu:=FU) (Lo:=C8d) (ds:=[.slice R7,A4F]) follows B4 A85 (by kernel_rfl) C8e 40 (by kernel_rfl) (fun xs hd hg=>?_)
 obtain ⟨a,b,rfl,ha,hb⟩:=A3Q hd
 exact (D2X a b).trans (D04 hg)
def K51:KC:=E4 Tryz.prog T C8f false FU 4
theorem D9K:K51.nat:=A8 A86 4
theorem D9L:W6 Tryz.prog T K51.dir:=B6 follows B4 A86 4
def B4B:D0X→Vm.St
 | .m x y n i=>⟨[(0,.v 22 x),(1,.v 22 y),(4,.b false),(12,.i .i64 n),(13,.i .i64 i)],.e,[],0,some []⟩
def D4x (R:Type) (kx:Exit→Vm.St→Option R):D6G→Option R
 | .o x y n i=>kx (.exit 0) { B4B (.m x y n i) with nx:=4096 }
 | .r x y n i=>kx (.ret) { B4B (.m x y n i) with nx:=4096 }
def B6O:Vm.St→Option D0X
 | ⟨[(0,.v 22 x),(1,.v 22 y),(4,.b false),(12,.i .i64 n),(13,.i .i64 i)],.e,[],0,some []⟩=>some (.m x y n i)
 | _=>none
theorem C1j:J7 B6O B4B:=by
 intro _ _ h
 unfold B6O at h
 split at h<;>first | (cases h;rfl) | cases h
theorem D2Y:E7 T K51 (fun _=>none) (nT 22) (cT 22 0) 0 [999999,0,1,4,12,13] 4096 B4B C5C D4x:=by
 intro R of x K kx
 cases x<;>kernel_rfl
def D7Q:LS:=D9 T K51 (fun _=>none) (nT 22) (cT 22 0) 0 [999999,0,1,4,12,13] 4096 B6O C5C D4x
theorem B8K:B8 Tryz.prog T (nT 22) 0 (cT 22 0) D7Q :=
 B1 follows B4 D9K D9L A6 (A1 _) B4B C1j D2Y
def C8g:Nat→LC:=atN 0 [(4,D7Q)]
theorem C8h:F4 Tryz.prog T 22 C8g:=D1 0 (List.forall_mem_cons.2 ⟨B8K.1,fun _ h=>by cases h⟩) 1 (by kernel_rfl) ⟨trivial,T9 (s0:=D7Q) (by kernel_rfl) B8K⟩
theorem D2Z (l r:V):F0 Tryz.prog T K51 C8g false FU 22 (List Rs) (L6 T [22,22] [l,r]) (fun _=>none) 0 (fun out=>P2 T true [.d 4] out)=pqG 4 l r:=by kernel_rfl
def C8i:List (Nat×D3):=(22,H5 T true [22,22] (gF pqg (pqr 4)))::C8f
theorem A87:C7 Tryz.prog T C8i:=by
 refine D5 (sh:=true) (rk:=[.d 4]) (d:=4) (fu:=FU) (Lo:=C8g) (ds:=[.slice R7,.slice R7]) follows B4 A86 (by kernel_rfl) C8h 40 (by kernel_rfl) (fun xs hd hg=>?_)
 obtain ⟨a,b,rfl,ha,hb⟩:=A3Q hd
 exact (D2Z a b).trans (D05 hg)
def K52:KC:=E4 Tryz.prog T C8i false FU 4
theorem D9M:K52.nat:=A8 A87 4
theorem D9N:W6 Tryz.prog T K52.dir:=B6 follows B4 A87 4
def B8L:D0V→Vm.St
 | .m r xs q l n i=>⟨[(3,.p 0 45 []),(5,.o 1 1),(6,.b q),(13,.v 22 l),(14,.i .i64 n),(15,.i .i64 i)],(.n (some (.box 45 (.v 45 r) false)) (.n (some (.row 45 1 xs false false)) .e .e) .e),[],2,some []⟩
def D4y (R:Type) (kx:Exit→Vm.St→Option R):D0W→Option R
 | .o r xs q l n i=>kx (.exit 0) { B8L (.m r xs q l n i) with nx:=4096 }
def B6P:Vm.St→Option D0V
 | ⟨[(3,.p 0 45 []),(5,.o 1 1),(6,.b q),(13,.v 22 l),(14,.i .i64 n),(15,.i .i64 i)],(.n (some (.box 45 (.v 45 r) false)) (.n (some (.row 45 1 xs false false)) .e .e) .e),[],2,some []⟩=>some (.m r xs q l n i)
 | _=>none
theorem C1k:J7 B6P B8L:=by
 intro _ _ h
 unfold B6P at h
 split at h<;>first | (cases h;rfl) | cases h
theorem D20:E7 T K52 (fun _=>none) (nT 17) (cT 17 0) 0 [999999,3,5,6,13,14,15] 4096 B8L C0g D4y:=by
 intro R of x K kx
 cases x<;>kernel_rfl
def D7R:LS:=D9 T K52 (fun _=>none) (nT 17) (cT 17 0) 0 [999999,3,5,6,13,14,15] 4096 B6P C0g D4y
theorem B8M:B8 Tryz.prog T (nT 17) 0 (cT 17 0) D7R :=
 B1 follows B4 D9M D9N A6 (A1 _) B8L C1k D20
def C8j:Nat→LC:=atN 0 [(4,D7R)]
theorem C8k:F4 Tryz.prog T 17 C8j:=D1 0 (List.forall_mem_cons.2 ⟨B8M.1,fun _ h=>by cases h⟩) 1 (by kernel_rfl) ⟨trivial,T9 (s0:=D7R) (by kernel_rfl) B8M⟩
theorem D21 (l r:V):F0 Tryz.prog T K52 C8j false FU 17 (List Rs) (L6 T [22,45] [l,r]) (fun _=>none) 0 (fun out=>P2 T true [.d 22] out)=wtG 22 l r:=by kernel_rfl
def C8l:List (Nat×D3):=(17,H5 T true [22,45] (gF B3s (wtr 22)))::C8i
theorem A88:C7 Tryz.prog T C8l:=by
 refine D5 (sh:=true) (rk:=[.d 22]) (d:=4) (fu:=FU) (Lo:=C8j) (ds:=[.slice R7,R7]) follows B4 A87 (by kernel_rfl) C8k 40 (by kernel_rfl) (fun xs hd hg=>?_)
 obtain ⟨a,b,rfl,ha,hb⟩:=A3Q hd
 exact (D21 a b).trans (D06 hg)
def K53:KC:=E4 Tryz.prog T C8l false FU 4
theorem D9m:K53.nat:=A8 A88 4
theorem D9n:W6 Tryz.prog T K53.dir:=B6 follows B4 A88 4
end Go.Proofs.YteoeonfajlnggaaGreat
namespace Go.Proofs.YteoeonfajlnggaaGreat
open Go.Vm
set_option maxRecDepth 100000
set_option linter.unusedVariables false
set_option linter.constructorNameAsVariable false
def B8N:C8x→Vm.St
 | .m w h t xs b l n i=>⟨[(0,.v 22 w),(2,.i .i64 h),(4,.p 0 27 []),(8,.o 1 1),(9,.b b),(20,.v 24 l),(21,.i .i64 n),(22,.i .i64 i)],(.n (some (.box 27 (.v 27 t) false)) (.n (some (.row 45 1 xs false false)) .e .e) .e),[],2,some []⟩
def D4z (R:Type) (kx:Exit→Vm.St→Option R):D4P→Option R
 | .o w h t xs b l n i=>kx (.exit 0) { B8N (.m w h t xs b l n i) with nx:=4096 }
def B6Q:Vm.St→Option C8x
 | ⟨[(0,.v 22 w),(2,.i .i64 h),(4,.p 0 27 []),(8,.o 1 1),(9,.b b),(20,.v 24 l),(21,.i .i64 n),(22,.i .i64 i)],(.n (some (.box 27 (.v 27 t) false)) (.n (some (.row 45 1 xs false false)) .e .e) .e),[],2,some []⟩=>some (.m w h t xs b l n i)
 | _=>none
theorem C1l:J7 B6Q B8N:=by
 intro _ _ h
 unfold B6Q at h
 split at h<;>first | (cases h;rfl) | cases h
theorem D22:E7 T K53 (fun _=>none) (nT 21) (cT 21 0) 0 [999999,0,2,4,8,9,20,21,22] 4096 B8N B89 D4z:=by
 intro R of x K kx
 cases x<;>kernel_rfl
def D7S:LS:=D9 T K53 (fun _=>none) (nT 21) (cT 21 0) 0 [999999,0,2,4,8,9,20,21,22] 4096 B6Q B89 D4z
theorem B8O:B8 Tryz.prog T (nT 21) 0 (cT 21 0) D7S :=
 B1 follows B4 D9m D9n A6 (A1 _) B8N C1l D22
def B8P:C8y→Vm.St
 | .m w h xs b d l n i=>⟨[(0,.v 22 w),(2,.i .i64 h),(8,.o 0 1),(9,.b b),(13,.p 1 35 []),(51,.v 25 l),(52,.i .i64 n),(53,.i .i64 i)],(.n (some (.row 45 1 xs false false)) (.n (some (.box 35 (.v 35 d) false)) .e .e) .e),[],2,some []⟩
def D4A (R:Type) (kx:Exit→Vm.St→Option R):D4Q→Option R
 | .o w h xs b d l n i=>kx (.exit 2) { B8P (.m w h xs b d l n i) with nx:=8192 }
def B6R:Vm.St→Option C8y
 | ⟨[(0,.v 22 w),(2,.i .i64 h),(8,.o 0 1),(9,.b b),(13,.p 1 35 []),(51,.v 25 l),(52,.i .i64 n),(53,.i .i64 i)],(.n (some (.row 45 1 xs false false)) (.n (some (.box 35 (.v 35 d) false)) .e .e) .e),[],2,some []⟩=>some (.m w h xs b d l n i)
 | _=>none
theorem C1m:J7 B6R B8P:=by
 intro _ _ h
 unfold B6R at h
 split at h<;>first | (cases h;rfl) | cases h
theorem D23:E7 T K53 (fun _=>none) (nT 21) (cT 21 1) 0 [999999,0,2,8,9,13,51,52,53] 8192 B8P B9a D4A:=by
 intro R of x K kx
 cases x<;>kernel_rfl
def D7T:LS:=D9 T K53 (fun _=>none) (nT 21) (cT 21 1) 0 [999999,0,2,8,9,13,51,52,53] 8192 B6R B9a D4A
theorem B8Q:B8 Tryz.prog T (nT 21) 0 (cT 21 1) D7T :=
 B1 follows B4 D9m D9n A6 (A1 _) B8P C1m D23
def C8m:Nat→LC:=atN 0 [(4,D7S),(13,D7T)]
theorem C8n:F4 Tryz.prog T 21 C8m:=D1 0 (List.forall_mem_cons.2 ⟨B8O.1,List.forall_mem_cons.2 ⟨B8Q.1,fun _ h=>by cases h⟩⟩) 2 (by kernel_rfl) ⟨⟨trivial,T9 (s0:=D7S) (by kernel_rfl) B8O⟩,T9 (s0:=D7T) (by kernel_rfl) B8Q⟩
theorem D24 (l x y:V) (v u h:Int):F0 Tryz.prog T K53 C8m false FU 21 (List Rs) (L6 T [22,27,2] [l,.l [.i v,x,y,.i u],.i h]) (fun _=>none) 0 (fun out=>P2 T true [.d 22,.d 22] out)=daG 22 l v u h x y:=by kernel_rfl
def C8o:List (Nat×D3):=(21,H5 T true [22,27,2] (gF dag (dar 22)))::C8l
theorem A89:C7 Tryz.prog T C8o:=by
 refine D5 (sh:=true) (rk:=[.d 22,.d 22]) (d:=4) (fu:=FU) (Lo:=C8m) (ds:=[.slice R7,DTx,.int .i64]) follows B4 A88 (by kernel_rfl) C8n 40 (by kernel_rfl) (fun xs hd hg=>?_)
 obtain ⟨a,b,c,rfl,ha,hb,hc⟩:=B0l hd
 obtain ⟨v,x,y,u,rfl,_⟩:=A9t hb
 obtain ⟨h,rfl,_⟩:=hc
 exact (D24 a x y v u h).trans (C8K hg)
def K54:KC:=E4 Tryz.prog T C8o false FU 4
theorem D9o:K54.nat:=A8 A89 4
theorem D9p:W6 Tryz.prog T K54.dir:=B6 follows B4 A89 4
def B8R:C8z→Vm.St
 | .m w s d n i=>⟨[(0,.v 22 w),(2,.v 22 s),(7,.p 0 35 []),(15,.i .i64 n),(16,.i .i64 i)],(.n (some (.box 35 (.v 35 d) false)) .e .e),[],1,some []⟩
def D4B (R:Type) (kx:Exit→Vm.St→Option R):D4R→Option R
 | .o w s d n i=>kx (.exit 0) { B8R (.m w s d n i) with nx:=4096 }
def B6S:Vm.St→Option C8z
 | ⟨[(0,.v 22 w),(2,.v 22 s),(7,.p 0 35 []),(15,.i .i64 n),(16,.i .i64 i)],(.n (some (.box 35 (.v 35 d) false)) .e .e),[],1,some []⟩=>some (.m w s d n i)
 | _=>none
theorem C1n:J7 B6S B8R:=by
 intro _ _ h
 unfold B6S at h
 split at h<;>first | (cases h;rfl) | cases h
theorem D25:E7 T K54 (fun _=>none) (nT 25) (cT 25 0) 0 [999999,0,2,7,15,16] 4096 B8R B9b D4B:=by
 intro R of x K kx
 cases x<;>kernel_rfl
def D7U:LS:=D9 T K54 (fun _=>none) (nT 25) (cT 25 0) 0 [999999,0,2,7,15,16] 4096 B6S B9b D4B
theorem B8S:B8 Tryz.prog T (nT 25) 0 (cT 25 0) D7U :=
 B1 follows B4 D9o D9p A6 (A1 _) B8R C1n D25
def B8T:C8A→Vm.St
 | .m w s n i=>⟨[(0,.v 22 w),(26,.v 22 s),(27,.i .i64 n),(28,.i .i64 i)],.e,[],0,some []⟩
def D4C (R:Type) (kx:Exit→Vm.St→Option R):D4S→Option R
 | .o w s n i=>kx (.exit 2) { B8T (.m w s n i) with nx:=8192 }
def B6T:Vm.St→Option C8A
 | ⟨[(0,.v 22 w),(26,.v 22 s),(27,.i .i64 n),(28,.i .i64 i)],.e,[],0,some []⟩=>some (.m w s n i)
 | _=>none
theorem C1o:J7 B6T B8T:=by
 intro _ _ h
 unfold B6T at h
 split at h<;>first | (cases h;rfl) | cases h
theorem D26:E7 T K54 (fun _=>none) (nT 25) (cT 25 1) 0 [999999,0,26,27,28] 8192 B8T B9c D4C:=by
 intro R of x K kx
 cases x<;>kernel_rfl
def D7V:LS:=D9 T K54 (fun _=>none) (nT 25) (cT 25 1) 0 [999999,0,26,27,28] 8192 B6T B9c D4C
theorem B8U:B8 Tryz.prog T (nT 25) 0 (cT 25 1) D7V :=
 B1 follows B4 D9o D9p A6 (A1 _) B8T C1o D26
def C8p:Nat→LC:=atN 0 [(3,D7U),(8,D7V)]
theorem C8q:F4 Tryz.prog T 25 C8p:=D1 0 (List.forall_mem_cons.2 ⟨B8S.1,List.forall_mem_cons.2 ⟨B8U.1,fun _ h=>by cases h⟩⟩) 2 (by kernel_rfl) ⟨⟨trivial,T9 (s0:=D7U) (by kernel_rfl) B8S⟩,T9 (s0:=D7V) (by kernel_rfl) B8U⟩
theorem D27 (l x y s:V) (v u:Int):F0 Tryz.prog T K54 C8p false FU 25 (List Rs) (L6 T [22,27,22] [l,.l [.i v,x,y,.i u],s]) (fun _=>none) 0 (fun out=>P2 T true [.d 22] out)=duG 22 l v u x y s:=by kernel_rfl
def C8r:List (Nat×D3):=(25,H5 T true [22,27,22] (gF dug (dur 22)))::C8o
theorem A9a:C7 Tryz.prog T C8r:=by
 refine D5 (sh:=true) (rk:=[.d 22]) (d:=4) (fu:=FU) (Lo:=C8p) (ds:=[.slice R7,DTx,.slice R7]) follows B4 A89 (by kernel_rfl) C8q 40 (by kernel_rfl) (fun xs hd hg=>?_)
 obtain ⟨a,b,c,rfl,ha,hb,hc⟩:=B0l hd
 obtain ⟨v,x,y,u,rfl,_⟩:=A9t hb
 exact (D27 a x y c v u).trans (C8L hg)
def K55:KC:=E4 Tryz.prog T C8r false FU 4
theorem B2H:K55.nat:=A8 A9a 4
theorem C8s:W6 Tryz.prog T K55.dir:=B6 follows B4 A9a 4
def B8V:C8B→Vm.St
 | .m es xs nl ks kn n i=>⟨[(0,.p 0 81 []),(3,.o 2 1),(11,.o 3 1),(12,.i .i64 n),(13,.i .i64 i)],(.n (some (.box 81 (.g 81 [.m 1]) false)) (.n (some (.vm 38 43 es)) (.n (some (.row 38 1 ks kn false)) .e .e) .e) (.n (some (.row 45 1 xs nl false)) .e .e)),[1,0],4,some []⟩
def D4D (R:Type) (kx:Exit→Vm.St→Option R):D4T→Option R
 | .o es xs nl ks kn n i=>kx (.exit 0) { B8V (.m es xs nl ks kn n i) with nx:=1073741824 }
def B6U:Vm.St→Option C8B
 | ⟨[(0,.p 0 81 []),(3,.o 2 1),(11,.o 3 1),(12,.i .i64 n),(13,.i .i64 i)],(.n (some (.box 81 (.g 81 [.m 1]) false)) (.n (some (.vm 38 43 es)) (.n (some (.row 38 1 ks kn false)) .e .e) .e) (.n (some (.row 45 1 xs nl false)) .e .e)),[1,0],4,some []⟩=>some (.m es xs nl ks kn n i)
 | _=>none
theorem C1p:J7 B6U B8V:=by
 intro _ _ h
 unfold B6U at h
 split at h<;>first | (cases h;rfl) | cases h
theorem D28:E7 T K55 (fun _=>none) (nT 23) (cT 23 0) 2 [999999,0,3,11,12,13] 1073741824 B8V B9d D4D:=by
 intro R of x K kx
 cases x<;>kernel_rfl
def D7W:LS:=D9 T K55 (fun _=>none) (nT 23) (cT 23 0) 2 [999999,0,3,11,12,13] 1073741824 B6U B9d D4D
theorem B8W:B8 Tryz.prog T (nT 23) 2 (cT 23 0) D7W :=
 B1 follows B4 B2H C8s A6 (A1 _) B8V C1p D28
def D4E:Nat→LC:=atN 2 [(3,D7W)]
theorem A46:F4 Tryz.prog T 23 D4E:=D1 2 (List.forall_mem_cons.2 ⟨B8W.1,fun _ h=>by cases h⟩) 1 (by kernel_rfl) ⟨trivial,T9 (s0:=D7W) (by kernel_rfl) B8W⟩
def B8X:C8C→Vm.St
 | .m es s d n i=>⟨[(0,.p 0 81 []),(2,.v 22 s),(6,.p 2 35 []),(14,.i .i64 n),(15,.i .i64 i)],(.n (some (.box 81 (.g 81 [.m 1]) false)) (.n (some (.vm 38 43 es)) .e .e) (.n (some (.box 35 (.v 35 d) false)) .e .e)),[1,0],3,some []⟩
def D4F (R:Type) (kx:Exit→Vm.St→Option R):D4U→Option R
 | .o es s d n i=>kx (.exit 0) { B8X (.m es s d n i) with nx:=64 }
def B6V:Vm.St→Option C8C
 | ⟨[(0,.p 0 81 []),(2,.v 22 s),(6,.p 2 35 []),(14,.i .i64 n),(15,.i .i64 i)],(.n (some (.box 81 (.g 81 [.m 1]) false)) (.n (some (.vm 38 43 es)) .e .e) (.n (some (.box 35 (.v 35 d) false)) .e .e)),[1,0],3,some []⟩=>some (.m es s d n i)
 | _=>none
theorem C1q:J7 B6V B8X:=by
 intro _ _ h
 unfold B6V at h
 split at h<;>first | (cases h;rfl) | cases h
theorem D29:E7 T K55 (fun _=>none) (nT 26) (cT 26 0) 2 [999999,0,2,6,14,15] 64 B8X B9e D4F:=by
 intro R of x K kx
 cases x<;>kernel_rfl
def D7X:LS:=D9 T K55 (fun _=>none) (nT 26) (cT 26 0) 2 [999999,0,2,6,14,15] 64 B6V B9e D4F
theorem B8Y:B8 Tryz.prog T (nT 26) 2 (cT 26 0) D7X :=
 B1 follows B4 B2H C8s A6 (A1 _) B8X C1q D29
def B8Z:C8D→Vm.St
 | .m es s n i=>⟨[(0,.p 0 81 []),(27,.v 22 s),(28,.i .i64 n),(29,.i .i64 i)],(.n (some (.box 81 (.g 81 [.m 1]) false)) (.n (some (.vm 38 43 es)) .e .e) .e),[1,0],2,some []⟩
def D4G (R:Type) (kx:Exit→Vm.St→Option R):D4V→Option R
 | .o es s n i=>kx (.exit 2) { B8Z (.m es s n i) with nx:=128 }
def B6W:Vm.St→Option C8D
 | ⟨[(0,.p 0 81 []),(27,.v 22 s),(28,.i .i64 n),(29,.i .i64 i)],(.n (some (.box 81 (.g 81 [.m 1]) false)) (.n (some (.vm 38 43 es)) .e .e) .e),[1,0],2,some []⟩=>some (.m es s n i)
 | _=>none
theorem C1r:J7 B6W B8Z:=by
 intro _ _ h
 unfold B6W at h
 split at h<;>first | (cases h;rfl) | cases h
theorem D3a:E7 T K55 (fun _=>none) (nT 26) (cT 26 1) 2 [999999,0,27,28,29] 128 B8Z B9f D4G:=by
 intro R of x K kx
 cases x<;>kernel_rfl
def D7Y:LS:=D9 T K55 (fun _=>none) (nT 26) (cT 26 1) 2 [999999,0,27,28,29] 128 B6W B9f D4G
theorem B80:B8 Tryz.prog T (nT 26) 2 (cT 26 1) D7Y :=
 B1 follows B4 B2H C8s A6 (A1 _) B8Z C1r D3a
def D4H:Nat→LC:=atN 2 [(3,D7X),(8,D7Y)]
theorem A47:F4 Tryz.prog T 26 D4H:=D1 2 (List.forall_mem_cons.2 ⟨B8Y.1,List.forall_mem_cons.2 ⟨B80.1,fun _ h=>by cases h⟩⟩) 2 (by kernel_rfl) ⟨⟨trivial,T9 (s0:=D7X) (by kernel_rfl) B8Y⟩,T9 (s0:=D7Y) (by kernel_rfl) B80⟩
def D4I:List (Nat×D3):=(23,trS (P1 Tryz.prog T K55 D4E false FU 23))::C8r
theorem C8t:C7 Tryz.prog T D4I:=A9a.cons (J8 (M5 B2H A46.nat)) (N5 (M5 B2H A46.nat) (H0 follows B4 B2H C8s A46.nat A46.ok).at_)
def C8u:List (Nat×D3):=(26,trS (P1 Tryz.prog T K55 D4H false FU 26))::D4I
theorem A9b:C7 Tryz.prog T C8u:=C8t.cons (J8 (M5 B2H A47.nat)) (N5 (M5 B2H A47.nat) (H0 follows B4 B2H C8s A47.nat A47.ok).at_)
def K57:KC:=E4 Tryz.prog T C8u false FU 4
theorem E0o:K57.nat:=A8 A9b 4
theorem E0p:W6 Tryz.prog T K57.dir:=B6 follows B4 A9b 4
end Go.Proofs.YteoeonfajlnggaaGreat
namespace Go.Proofs.YteoeonfajlnggaaGreat
open Go.Vm
set_option maxRecDepth 100000
set_option linter.unusedVariables false
set_option linter.constructorNameAsVariable false
def B4C:List (Nat×D3):=(6,B5a)::C8u
theorem A3g:C7 Tryz.prog T B4C:=A9b.cons B5b D77
def K58:KC:=E4 Tryz.prog T B4C false FU 4
theorem C1s:K58.nat:=A8 A3g 4
theorem C1t:W6 Tryz.prog T K58.dir:=B6 follows B4 A3g 4
end Go.Proofs.YteoeonfajlnggaaGreat
namespace Go.Proofs.YteoeonfajlnggaaGreat
open Go.Vm
set_option maxRecDepth 100000
set_option linter.unusedVariables false
set_option linter.constructorNameAsVariable false
def B81:C8M→Vm.St
 | .m x h es w l n i=>⟨[(1,.v 53 x),(2,.i .i64 h),(6,.b false),(7,.p 0 81 []),(8,.v 22 w),(48,.v 22 l),(49,.i .i64 n),(50,.i .i64 i)],(.n (some (.box 81 (.g 81 [.m 1]) false)) (.n (some (.vm 38 43 es)) .e .e) .e),[],2,some []⟩
def D4J (R:Type) (kx:Exit→Vm.St→Option R):D4X→Option R
 | .o x h es w l n i=>kx (.exit 0) { B81 (.m x h es w l n i) with nx:=65536 }
def B6X:Vm.St→Option C8M
 | ⟨[(1,.v 53 x),(2,.i .i64 h),(6,.b false),(7,.p 0 81 []),(8,.v 22 w),(48,.v 22 l),(49,.i .i64 n),(50,.i .i64 i)],(.n (some (.box 81 (.g 81 [.m 1]) false)) (.n (some (.vm 38 43 es)) .e .e) .e),[],2,some []⟩=>some (.m x h es w l n i)
 | _=>none
theorem C1u:J7 B6X B81:=by
 intro _ _ h
 unfold B6X at h
 split at h<;>first | (cases h;rfl) | cases h
theorem D3b:E7 T K58 (fun _=>none) (nT 4) (cT 4 0) 0 [999999,1,2,6,7,8,48,49,50] 65536 B81 B9g D4J:=by
 intro R of x K kx
 cases x<;>kernel_rfl
def D9q:LS:=D9 T K58 (fun _=>none) (nT 4) (cT 4 0) 0 [999999,1,2,6,7,8,48,49,50] 65536 B6X B9g D4J
theorem D3c:B8 Tryz.prog T (nT 4) 0 (cT 4 0) D9q :=
 B1 follows B4 C1s C1t A6 (A1 _) B81 C1u D3b
def C8v:LS:=D4a T 8 22 D9q
theorem B4D:B8 Tryz.prog T (nT 4) 0 (cT 4 0) C8v:=C5x D3c
def B82:C8N→Vm.St
 | .m x h es w g ds ek a t y n i l m j=>⟨[(1,.v 53 x),(2,.i .i64 h),(6,.b false),(7,.p 0 81 []),(8,.v 22 w),(11,.v 22 g),(12,.o 2 1),(13,.p 3 81 []),(14,.i .i64 a),(15,.p 5 27 []),(62,.v 53 y),(63,.i .i64 n),(64,.i .i64 i),(72,.v 25 l),(73,.i .i64 m),(74,.i .i64 j)],(.n (some (.box 81 (.g 81 [.m 1]) false)) (.n (some (.vm 38 43 es)) (.n (some (.box 81 (.g 81 [.m 4]) false)) .e .e) (.n (some (.box 27 (.v 27 t) false)) .e .e)) (.n (some (.row 22 1 ds false false)) (.n (some (.vm 38 43 ek)) .e .e) .e)),[],6,some []⟩
def D4K (R:Type) (kx:Exit→Vm.St→Option R):D4Y→Option R
 | .o x h es w g ds ek a t y n i l m j=>kx (.exit 4) { B82 (.m x h es w g ds ek a t y n i l m j) with nx:=131072 }
 | .r x h es w g ds ek a t y n i l m j=>kx (.ret) ⟨[(1,.v 53 x),(2,.i .i64 h),(6,.b true),(7,.p 0 81 []),(8,.v 22 w),(11,.v 22 g),(12,.o 2 1),(13,.p 3 81 []),(14,.i .i64 a),(15,.p 5 27 []),(62,.v 53 y),(63,.i .i64 n),(64,.i .i64 i),(72,.v 25 l),(73,.i .i64 m),(74,.i .i64 j)],(.n (some (.box 81 (.g 81 [.m 1]) false)) (.n (some (.vm 38 43 es)) (.n (some (.box 81 (.g 81 [.m 4]) false)) .e .e) (.n (some (.box 27 (.v 27 t) false)) .e .e)) (.n (some (.row 22 1 ds false false)) (.n (some (.vm 38 43 ek)) .e .e) .e)),[],131072,some []⟩
def B6Y:Vm.St→Option C8N
 | ⟨[(1,.v 53 x),(2,.i .i64 h),(6,.b false),(7,.p 0 81 []),(8,.v 22 w),(11,.v 22 g),(12,.o 2 1),(13,.p 3 81 []),(14,.i .i64 a),(15,.p 5 27 []),(62,.v 53 y),(63,.i .i64 n),(64,.i .i64 i),(72,.v 25 l),(73,.i .i64 m),(74,.i .i64 j)],(.n (some (.box 81 (.g 81 [.m 1]) false)) (.n (some (.vm 38 43 es)) (.n (some (.box 81 (.g 81 [.m 4]) false)) .e .e) (.n (some (.box 27 (.v 27 t) false)) .e .e)) (.n (some (.row 22 1 ds false false)) (.n (some (.vm 38 43 ek)) .e .e) .e)),[],6,some []⟩=>some (.m x h es w g ds ek a t y n i l m j)
 | _=>none
theorem C1v:J7 B6Y B82:=by
 intro _ _ h
 unfold B6Y at h
 split at h<;>first | (cases h;rfl) | cases h
theorem D3d:E7 T K58 (fun _=>none) (nT 4) (cT 4 2) 0 [999999,1,2,6,7,8,11,12,13,14,15,62,63,64,72,73,74] 131072 B82 B9h D4K:=by
 intro R of x K kx
 cases x<;>kernel_rfl
def D3e:LS:=D9 T K58 (fun _=>none) (nT 4) (cT 4 2) 0 [999999,1,2,6,7,8,11,12,13,14,15,62,63,64,72,73,74] 131072 B6Y B9h D4K
theorem B83:B8 Tryz.prog T (nT 4) 0 (cT 4 2) D3e :=
 B1 follows B4 C1s C1t A6 (A1 _) B82 C1v D3d
def B84:C8O→Vm.St
 | .m x h es w g ds ek a t d y n i m j=>⟨[(1,.v 53 x),(2,.i .i64 h),(6,.b false),(7,.p 0 81 []),(8,.v 22 w),(11,.v 22 g),(12,.o 2 1),(13,.p 3 81 []),(14,.i .i64 a),(15,.p 5 27 []),(18,.p 6 35 []),(62,.v 53 y),(63,.i .i64 n),(64,.i .i64 i),(87,.i .i64 m),(88,.i .i64 j)],(.n (some (.box 81 (.g 81 [.m 1]) false)) (.n (some (.vm 38 43 es)) (.n (some (.box 81 (.g 81 [.m 4]) false)) .e .e) (.n (some (.box 27 (.v 27 t) false)) .e .e)) (.n (some (.row 22 1 ds false false)) (.n (some (.vm 38 43 ek)) .e .e) (.n (some (.box 35 (.v 35 d) false)) .e .e))),[],7,some []⟩
def D4L (R:Type) (kx:Exit→Vm.St→Option R):D4Z→Option R
 | .o x h es w g ds ek a t d y n i m j=>kx (.exit 6) { B84 (.m x h es w g ds ek a t d y n i m j) with nx:=262144 }
 | .r x h es w g ds ek a t d y n i m j=>kx (.ret) ⟨[(1,.v 53 x),(2,.i .i64 h),(6,.b true),(7,.p 0 81 []),(8,.v 22 w),(11,.v 22 g),(12,.o 2 1),(13,.p 3 81 []),(14,.i .i64 a),(15,.p 5 27 []),(18,.p 6 35 []),(62,.v 53 y),(63,.i .i64 n),(64,.i .i64 i),(87,.i .i64 m),(88,.i .i64 j)],(.n (some (.box 81 (.g 81 [.m 1]) false)) (.n (some (.vm 38 43 es)) (.n (some (.box 81 (.g 81 [.m 4]) false)) .e .e) (.n (some (.box 27 (.v 27 t) false)) .e .e)) (.n (some (.row 22 1 ds false false)) (.n (some (.vm 38 43 ek)) .e .e) (.n (some (.box 35 (.v 35 d) false)) .e .e))),[],262144,some []⟩
def B6Z:Vm.St→Option C8O
 | ⟨[(1,.v 53 x),(2,.i .i64 h),(6,.b false),(7,.p 0 81 []),(8,.v 22 w),(11,.v 22 g),(12,.o 2 1),(13,.p 3 81 []),(14,.i .i64 a),(15,.p 5 27 []),(18,.p 6 35 []),(62,.v 53 y),(63,.i .i64 n),(64,.i .i64 i),(87,.i .i64 m),(88,.i .i64 j)],(.n (some (.box 81 (.g 81 [.m 1]) false)) (.n (some (.vm 38 43 es)) (.n (some (.box 81 (.g 81 [.m 4]) false)) .e .e) (.n (some (.box 27 (.v 27 t) false)) .e .e)) (.n (some (.row 22 1 ds false false)) (.n (some (.vm 38 43 ek)) .e .e) (.n (some (.box 35 (.v 35 d) false)) .e .e))),[],7,some []⟩=>some (.m x h es w g ds ek a t d y n i m j)
 | _=>none
theorem C1w:J7 B6Z B84:=by
 intro _ _ h
 unfold B6Z at h
 split at h<;>first | (cases h;rfl) | cases h
theorem D3f:E7 T K58 (fun _=>none) (nT 4) (cT 4 3) 0 [999999,1,2,6,7,8,11,12,13,14,15,18,62,63,64,87,88] 262144 B84 B2J D4L:=by
 intro R of x K kx
 cases x<;>kernel_rfl
def D3g:LS:=D9 T K58 (fun _=>none) (nT 4) (cT 4 3) 0 [999999,1,2,6,7,8,11,12,13,14,15,18,62,63,64,87,88] 262144 B6Z B2J D4L
theorem B85:B8 Tryz.prog T (nT 4) 0 (cT 4 3) D3g :=
 B1 follows B4 C1s C1t A6 (A1 _) B84 C1w D3f
def B4E:C8P→Vm.St
 | .m x h es w g ds ek a d y n i m j=>⟨[(1,.v 53 x),(2,.i .i64 h),(6,.b false),(7,.p 0 81 []),(8,.v 22 w),(11,.v 22 g),(12,.o 2 1),(13,.p 3 81 []),(14,.i .i64 a),(18,.p 5 35 []),(62,.v 53 y),(63,.i .i64 n),(64,.i .i64 i),(132,.i .i64 m),(133,.i .i64 j)],(.n (some (.box 81 (.g 81 [.m 1]) false)) (.n (some (.vm 38 43 es)) (.n (some (.box 81 (.g 81 [.m 4]) false)) .e .e) (.n (some (.box 35 (.v 35 d) false)) .e .e)) (.n (some (.row 22 1 ds false false)) (.n (some (.vm 38 43 ek)) .e .e) .e)),[],6,some []⟩
def D4M (R:Type) (kx:Exit→Vm.St→Option R):D40→Option R
 | .o x h es w g ds ek a d y n i m j=>kx (.exit 8) { B4E (.m x h es w g ds ek a d y n i m j) with nx:=4294967296 }
 | .s x h es w g ds ek a d y n i m j=>kx (.ret) { B4E (.m x h es w g ds ek a d y n i m j) with nx:=4294967296 }
def B60:Vm.St→Option C8P
 | ⟨[(1,.v 53 x),(2,.i .i64 h),(6,.b false),(7,.p 0 81 []),(8,.v 22 w),(11,.v 22 g),(12,.o 2 1),(13,.p 3 81 []),(14,.i .i64 a),(18,.p 5 35 []),(62,.v 53 y),(63,.i .i64 n),(64,.i .i64 i),(132,.i .i64 m),(133,.i .i64 j)],(.n (some (.box 81 (.g 81 [.m 1]) false)) (.n (some (.vm 38 43 es)) (.n (some (.box 81 (.g 81 [.m 4]) false)) .e .e) (.n (some (.box 35 (.v 35 d) false)) .e .e)) (.n (some (.row 22 1 ds false false)) (.n (some (.vm 38 43 ek)) .e .e) .e)),[],6,some []⟩=>some (.m x h es w g ds ek a d y n i m j)
 | _=>none
theorem C1x:J7 B60 B4E:=by
 intro _ _ h
 unfold B60 at h
 split at h<;>first | (cases h;rfl) | cases h
theorem D3h:E7 T K58 (fun _=>none) (nT 4) (cT 4 4) 0 [999999,1,2,6,7,8,11,12,13,14,18,62,63,64,132,133] 4294967296 B4E B9i D4M:=by
 intro R of x K kx
 cases x<;>kernel_rfl
def D3i:LS:=D9 T K58 (fun _=>none) (nT 4) (cT 4 4) 0 [999999,1,2,6,7,8,11,12,13,14,18,62,63,64,132,133] 4294967296 B60 B9i D4M
theorem B86:B8 Tryz.prog T (nT 4) 0 (cT 4 4) D3i :=
 B1 follows B4 C1s C1t A6 (A1 _) B4E C1x D3h
def B4F:B2K→Vm.St
 | .m x h es w g ds ek y n i=>⟨[(1,.v 53 x),(2,.i .i64 h),(6,.b false),(7,.p 0 81 []),(8,.v 22 w),(11,.v 22 g),(12,.o 2 1),(13,.p 3 81 []),(62,.v 53 y),(63,.i .i64 n),(64,.i .i64 i)],(.n (some (.box 81 (.g 81 [.m 1]) false)) (.n (some (.vm 38 43 es)) (.n (some (.box 81 (.g 81 [.m 4]) false)) .e .e) .e) (.n (some (.row 22 1 ds false false)) (.n (some (.vm 38 43 ek)) .e .e) .e)),[],5,some []⟩
def D4N (R:Type) (kx:Exit→Vm.St→Option R):B4J→Option R
 | .o x h es w g ds ek y n i=>kx (.exit 2) { B4F (.m x h es w g ds ek y n i) with nx:=17179869184 }
 | .r x h es w g ds ek y n i=>kx (.ret) ⟨[(1,.v 53 x),(2,.i .i64 h),(6,.b true),(7,.p 0 81 []),(8,.v 22 w),(11,.v 22 g),(12,.o 2 1),(13,.p 3 81 []),(62,.v 53 y),(63,.i .i64 n),(64,.i .i64 i)],(.n (some (.box 81 (.g 81 [.m 1]) false)) (.n (some (.vm 38 43 es)) (.n (some (.box 81 (.g 81 [.m 4]) false)) .e .e) .e) (.n (some (.row 22 1 ds false false)) (.n (some (.vm 38 43 ek)) .e .e) .e)),[],17179869184,some []⟩
 | .s x h es w g ds ek y n i=>kx (.ret) { B4F (.m x h es w g ds ek y n i) with nx:=17179869184 }
def B61:Vm.St→Option B2K
 | ⟨[(1,.v 53 x),(2,.i .i64 h),(6,.b false),(7,.p 0 81 []),(8,.v 22 w),(11,.v 22 g),(12,.o 2 1),(13,.p 3 81 []),(62,.v 53 y),(63,.i .i64 n),(64,.i .i64 i)],(.n (some (.box 81 (.g 81 [.m 1]) false)) (.n (some (.vm 38 43 es)) (.n (some (.box 81 (.g 81 [.m 4]) false)) .e .e) .e) (.n (some (.row 22 1 ds false false)) (.n (some (.vm 38 43 ek)) .e .e) .e)),[],5,some []⟩=>some (.m x h es w g ds ek y n i)
 | _=>none
theorem C1y:J7 B61 B4F:=by
 intro _ _ h
 unfold B61 at h
 split at h<;>first | (cases h;rfl) | cases h
theorem D3j:E7 T K58 (loT [(21,D3e),(28,D3g),(40,D3i)]) (nT 4) (cT 4 1) 0 [999999,1,2,6,7,8,11,12,13,62,63,64] 17179869184 B4F A9c D4N:=by
 intro R of x K kx
 cases x<;>kernel_rfl
def D7Z:LS:=D9 T K58 (loT [(21,D3e),(28,D3g),(40,D3i)]) (nT 4) (cT 4 1) 0 [999999,1,2,6,7,8,11,12,13,62,63,64] 17179869184 B61 A9c D4N
theorem B87:B8 Tryz.prog T (nT 4) 0 (cT 4 1) D7Z :=
 B1 follows B4 C1s C1t (A0S (List.forall_mem_cons.2 ⟨B83.1,List.forall_mem_cons.2 ⟨B85.1,List.forall_mem_cons.2 ⟨B86.1,fun _ h=>by cases h⟩⟩⟩)) (R8 3 (by kernel_rfl) ⟨⟨⟨trivial,T9 (s0:=D3e) (by kernel_rfl) ((show lp (lp (G7 Tryz.prog 4) 1) 0=lp (G7 Tryz.prog 4) 2 from by kernel_rfl) ▸ B83)⟩,T9 (s0:=D3g) (by kernel_rfl) ((show lp (lp (G7 Tryz.prog 4) 1) 1=lp (G7 Tryz.prog 4) 3 from by kernel_rfl) ▸ B85)⟩,T9 (s0:=D3i) (by kernel_rfl) ((show lp (lp (G7 Tryz.prog 4) 1) 2=lp (G7 Tryz.prog 4) 4 from by kernel_rfl) ▸ B86)⟩) B4F C1y D3j
def B4G:C8Q→Vm.St
 | .m x es w g ds ek i=>⟨[(1,.v 53 x),(6,.b false),(7,.p 0 81 []),(8,.v 22 w),(11,.v 22 g),(12,.o 2 1),(13,.p 3 81 []),(26,.i .i64 i)],(.n (some (.box 81 (.g 81 [.m 1]) false)) (.n (some (.vm 38 43 es)) (.n (some (.box 81 (.g 81 [.m 4]) false)) .e .e) .e) (.n (some (.row 22 1 ds false false)) (.n (some (.vm 38 43 ek)) .e .e) .e)),[],5,some []⟩
def D4O (R:Type) (kx:Exit→Vm.St→Option R):D41→Option R
 | .o x es w g ds ek i=>kx (.exit 10) { B4G (.m x es w g ds ek i) with nx:=68719476736 }
 | .s x es w g ds ek i=>kx (.ret) { B4G (.m x es w g ds ek i) with nx:=68719476736 }
def B62:Vm.St→Option C8Q
 | ⟨[(1,.v 53 x),(6,.b false),(7,.p 0 81 []),(8,.v 22 w),(11,.v 22 g),(12,.o 2 1),(13,.p 3 81 []),(26,.i .i64 i)],(.n (some (.box 81 (.g 81 [.m 1]) false)) (.n (some (.vm 38 43 es)) (.n (some (.box 81 (.g 81 [.m 4]) false)) .e .e) .e) (.n (some (.row 22 1 ds false false)) (.n (some (.vm 38 43 ek)) .e .e) .e)),[],5,some []⟩=>some (.m x es w g ds ek i)
 | _=>none
theorem C1z:J7 B62 B4G:=by
 intro _ _ h
 unfold B62 at h
 split at h<;>first | (cases h;rfl) | cases h
theorem D3k:E7 T K58 (fun _=>none) (nT 4) (cT 4 5) 0 [999999,1,6,7,8,11,12,13,26] 68719476736 B4G B9j D4O:=by
 intro R of x K kx
 cases x<;>kernel_rfl
def D70:LS:=D9 T K58 (fun _=>none) (nT 4) (cT 4 5) 0 [999999,1,6,7,8,11,12,13,26] 68719476736 B62 B9j D4O
theorem B88:B8 Tryz.prog T (nT 4) 0 (cT 4 5) D70 :=
 B1 follows B4 C1s C1t A6 (A1 _) B4G C1z D3k
def C8w:Nat→LC:=atN 0 [(8,C8v),(16,D7Z),(48,D70)]
theorem B2I:F4 Tryz.prog T 4 C8w:=D1 0 (List.forall_mem_cons.2 ⟨B4D.1,List.forall_mem_cons.2 ⟨B87.1,List.forall_mem_cons.2 ⟨B88.1,fun _ h=>by cases h⟩⟩⟩) 6 (by kernel_rfl) ⟨⟨⟨⟨⟨⟨trivial,T9 (s0:=C8v) (by kernel_rfl) B4D⟩,T9 (s0:=D7Z) (by kernel_rfl) B87⟩,loN (by kernel_rfl)⟩,loN (by kernel_rfl)⟩,loN (by kernel_rfl)⟩,T9 (s0:=D70) (by kernel_rfl) B88⟩
end Go.Proofs.YteoeonfajlnggaaGreat
namespace Go.Proofs.YteoeonfajlnggaaGreat
open Go.Vm
set_option maxRecDepth 100000
set_option linter.unusedVariables false
set_option linter.constructorNameAsVariable false
theorem D3l (l x:V) (h:Int):F0 Tryz.prog T K58 C8w false FU 4 Unit (L6 T [22,53,2] [l,x,.i h]) (fun _=>none) 0 B3C=D43 l x h:=by kernel_rfl
theorem law_run (xs:List V) (hd:D.hasL [.slice R7,.slice DTx,.int .i64] xs) (hm:D.smL [.slice R7,.slice DTx,.int .i64] xs):F0 Tryz.prog T (E4 Tryz.prog T B4C false FU 4) C8w false FU 4 Unit (L6 T [22,53,2] xs) (fun _=>none) 0 B3C=some ():=by
 obtain ⟨l,x,c,rfl,hl,hx,n,rfl,_⟩:=B0l hd
 exact (D3l l x n).trans (C82 hl hx hm)
theorem law_nat:(F0 Tryz.prog T (E4 Tryz.prog T B4C false FU 4) C8w false FU 4).nat:=A5I (A8 A3g 4) B2I.nat
theorem law_ok:J0 Tryz.prog T 4 (F0 Tryz.prog T (E4 Tryz.prog T B4C false FU 4) C8w false FU 4).dir:=A8D follows B4 (A8 A3g 4) (B6 follows B4 A3g 4) B2I.nat B2I.ok
end Go.Proofs.YteoeonfajlnggaaGreat
end
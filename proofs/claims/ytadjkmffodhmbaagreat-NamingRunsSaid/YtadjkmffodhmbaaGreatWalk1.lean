/- What functions compute, and the law run. -/
import Derived.Test.YtadjkmffodhmbaaGreatTy
import Derived.Test.YtadjkmffodhmbaaGreatVm9
import Derived.Test.YtadjkmffodhmbaaGreatVm11
import Derived.Test.YtadjkmffodhmbaaGreatVm12
import Derived.Test.YtadjkmffodhmbaaGreatVm10
import Derived.Shelf.SlIter.Sorted
import Derived.Shelf.SortM.Plain
import Derived.Shelf.SortM.SortNone
import Derived.LoopTactic
import Derived.MapKept
import Derived.Shelf.Abstract
set_option linter.constructorNameAsVariable false
set_option linter.unusedVariables false
set_option linter.unusedSimpArgs false
noncomputable section
namespace Go.Proofs.YtadjkmffodhmbaaGreat
open Go.Vm
set_option maxRecDepth 100000
set_option linter.unusedVariables false
def C8S:List (Nat×E5):=[]
theorem A9j:D2 Tryz.prog T C8S:=B5k
def K1:KC:=E9 Tryz.prog T C8S false FU 4
theorem hK1:K1.nat:=A8 A9j 4
theorem hS1:W5 Tryz.prog T K1.dir:=B4 follows B6 A9j 4
def B3L:B5n→Vm.St
 | .m x z i w=>⟨[(0,.v 37 x),(2,.p 0 183 []),(3,.p 1 183 []),(8,.i .i64 i)],(.n (some (.box 183 (.v 183 z) false)) (.n (some (.box 183 (.v 183 w) false)) .e .e) .e),[],2,some []⟩
def C6d (R:Type) (kx:Exit→Vm.St→Option R):C8p→Option R
 | .o x z i w=>kx (.exit 0) ⟨[(0,.v 37 x),(2,.p 0 183 []),(3,.p 1 183 []),(8,.i .i64 i)],(.n (some (.box 183 (.v 183 z) false)) (.n (some (.box 183 (.v 183 w) false)) .e .e) .e),[],16,some []⟩
def B2i:Vm.St→Option B5n
 | ⟨[(0,.v 37 x),(2,.p 0 183 []),(3,.p 1 183 []),(8,.i .i64 i)],(.n (some (.box 183 (.v 183 z) false)) (.n (some (.box 183 (.v 183 w) false)) .e .e) .e),[],2,some []⟩=>some (.m x z i w)
 | _=>none
theorem B5W (τ:Vm.St) (x:B5n) (h:B2i τ=some x):τ=B3L x:=by
 unfold B2i at h
 split at h<;>first | (cases h;rfl) | cases h
theorem C4v (R:Type) (of:Nat→Option Ob) (x:B5n) (K:Vm.St→Option R) (kx:Exit→Vm.St→Option R):E8 T K1 (fun _=>none) false FU (C2 Tryz.prog 119) of R (lp (A4 Tryz.prog 119) 0) (B3L x) (H4 0 [0,2,3,8] 16 K kx)=B87 R x (fun x'=>K (B3L x')) (C6d R kx):=by
 cases x with
 | m _ _ _ _=>kernel_rfl
def C8T:LS:=H9 T K1 (fun _=>none) (C2 Tryz.prog 119) (lp (A4 Tryz.prog 119) 0) 0 [0,2,3,8] 16 B2i B87 C6d
theorem B3M:F0 Tryz.prog T (C2 Tryz.prog 119) 0 (lp (A4 Tryz.prog 119) 0) C8T :=
 C5 follows B6 hK1 hS1 B2 (A6 _) B3L B5W C4v
def B3N:B5o→Vm.St
 | .m z i w=>⟨[(2,.p 0 183 []),(3,.p 1 183 []),(5,.i .i64 i)],(.n (some (.box 183 (.v 183 z) false)) (.n (some (.box 183 (.v 183 w) false)) .e .e) .e),[],2,some []⟩
def C6e (R:Type) (kx:Exit→Vm.St→Option R):C8q→Option R
 | .o z i w=>kx (.exit 2) ⟨[(2,.p 0 183 []),(3,.p 1 183 []),(5,.i .i64 i)],(.n (some (.box 183 (.v 183 z) false)) (.n (some (.box 183 (.v 183 w) false)) .e .e) .e),[],16,some []⟩
def B2j:Vm.St→Option B5o
 | ⟨[(2,.p 0 183 []),(3,.p 1 183 []),(5,.i .i64 i)],(.n (some (.box 183 (.v 183 z) false)) (.n (some (.box 183 (.v 183 w) false)) .e .e) .e),[],2,some []⟩=>some (.m z i w)
 | _=>none
theorem B5X (τ:Vm.St) (x:B5o) (h:B2j τ=some x):τ=B3N x:=by
 unfold B2j at h
 split at h<;>first | (cases h;rfl) | cases h
theorem C4w (R:Type) (of:Nat→Option Ob) (x:B5o) (K:Vm.St→Option R) (kx:Exit→Vm.St→Option R):E8 T K1 (fun _=>none) false FU (C2 Tryz.prog 119) of R (lp (A4 Tryz.prog 119) 1) (B3N x) (H4 0 [2,3,5] 16 K kx)=B5p R x (fun x'=>K (B3N x')) (C6e R kx):=by
 cases x with
 | m _ _ _=>kernel_rfl
def C8U:LS:=H9 T K1 (fun _=>none) (C2 Tryz.prog 119) (lp (A4 Tryz.prog 119) 1) 0 [2,3,5] 16 B2j B5p C6e
theorem B3O:F0 Tryz.prog T (C2 Tryz.prog 119) 0 (lp (A4 Tryz.prog 119) 1) C8U :=
 C5 follows B6 hK1 hS1 B2 (A6 _) B3N B5X C4w
def C8V:Nat→LC:=atN 0 [(3,C8T),(8,C8U)]
theorem C4x:H8 Tryz.prog T 119 C8V:=E7 0 (List.forall_mem_cons.2 ⟨B3M.1,List.forall_mem_cons.2 ⟨B3O.1,fun _ h=>by cases h⟩⟩) 2 (by kernel_rfl) ⟨⟨trivial,loI (s0:=C8T) (by kernel_rfl) B3M⟩,loI (s0:=C8U) (by kernel_rfl) B3O⟩
def Gsp:FC:=fun R xs k=>match xs with
 | [x]=>E1 (B87 R) (A2 FU) (.m x z64 0 z64) (fun | .o _ z _ w=>E1 (B5p R) (A2 FU) (.m z 16 w) (fun | .o _ _ w=>k [.d 183 w]))
 | _=>none
theorem C8W (R:Type) (x:V) (k:List Rs→Option R):C4 Tryz.prog T K1 C8V false FU 119 R (G2 T [37] [x]) (fun _=>none) 0 (fun out=>ob (H2 T false [.d 183] out) k)=Gsp R [x] k:=by kernel_rfl
def C8X:List (Nat×E5):=(119,F6 T false [37] (Fsp 183))::C8S
theorem A9k:D2 Tryz.prog T C8X:=by
 refine A3H (sh:=false) (rk:=[.d 183]) (d:=4) (fu:=FU) (Lo:=C8V) (G:=Gsp) follows B6 A9j (C3N 183) (by kernel_rfl) C4x (fun R xs k htv=>?_) (fun xs rs htv hrs=>?_)
 ·match xs,htv.len with
  | [x],_=>exact C8W R x k
 ·match xs,htv,htv.len with
  | [x],htv,_ =>
   obtain ⟨e,cs,hx⟩:=htv.head
   obtain ⟨bs,h1,h2⟩:=A6u (T:=T) (el:=5) (kd:=.u8) (by kernel_rfl) (by kernel_rfl) rfl hx
   simp only [Fsp] at hrs
   cases hl:Nat.ble 64 x.els.length with
   | false=>rw [hl] at hrs;cases hrs
   | true =>
    rw [hl] at hrs
    have hl:=D2N hl
    rw [h1,D2L] at hl
    exact (B1Z h1 (B9a h2) hl HID (fun w=>some [Rs.d 183 w])).trans hrs
def K2:KC:=E9 Tryz.prog T C8X false FU 4
theorem hK2:K2.nat:=A8 A9k 4
theorem hS2:W5 Tryz.prog T K2.dir:=B4 follows B6 A9k 4
def B3P:B5q→Vm.St
 | .m s z w k x i=>⟨[(2,.p 0 172 []),(4,.p 1 172 []),(5,.p 3 183 []),(6,.p 4 183 []),(7,.p 5 172 []),(18,.i .i64 i)],(.n (some (.box 172 (.v 172 s) false)) (.n (some (.box 172 (.v 172 z) false)) (.n (some (.box 183 (.v 183 w) false)) .e .e) (.n (some (.box 172 (.v 172 x) false)) .e .e)) (.n none (.n (some (.box 183 (.v 183 k) false)) .e .e) .e)),[],6,some []⟩
def C6f (R:Type) (kx:Exit→Vm.St→Option R):C8r→Option R
 | .o s z w k x i=>kx (.exit 0) ⟨[(2,.p 0 172 []),(4,.p 1 172 []),(5,.p 3 183 []),(6,.p 4 183 []),(7,.p 5 172 []),(18,.i .i64 i)],(.n (some (.box 172 (.v 172 s) false)) (.n (some (.box 172 (.v 172 z) false)) (.n (some (.box 183 (.v 183 w) false)) .e .e) (.n (some (.box 172 (.v 172 x) false)) .e .e)) (.n none (.n (some (.box 183 (.v 183 k) false)) .e .e) .e)),[],16,some []⟩
def B2k:Vm.St→Option B5q
 | ⟨[(2,.p 0 172 []),(4,.p 1 172 []),(5,.p 3 183 []),(6,.p 4 183 []),(7,.p 5 172 []),(18,.i .i64 i)],(.n (some (.box 172 (.v 172 s) false)) (.n (some (.box 172 (.v 172 z) false)) (.n (some (.box 183 (.v 183 w) false)) .e .e) (.n (some (.box 172 (.v 172 x) false)) .e .e)) (.n none (.n (some (.box 183 (.v 183 k) false)) .e .e) .e)),[],6,some []⟩=>some (.m s z w k x i)
 | _=>none
theorem B5Y (τ:Vm.St) (x:B5q) (h:B2k τ=some x):τ=B3P x:=by
 unfold B2k at h
 split at h<;>first | (cases h;rfl) | cases h
theorem C4y (R:Type) (of:Nat→Option Ob) (x:B5q) (K:Vm.St→Option R) (kx:Exit→Vm.St→Option R):E8 T K2 (fun _=>none) false FU (C2 Tryz.prog 112) of R (lp (A4 Tryz.prog 112) 0) (B3P x) (H4 0 [2,4,5,6,7,18] 16 K kx)=B88 R x (fun x'=>K (B3P x')) (C6f R kx):=by
 cases x with
 | m _ _ _ _ _ _=>kernel_rfl
def C8Y:LS:=H9 T K2 (fun _=>none) (C2 Tryz.prog 112) (lp (A4 Tryz.prog 112) 0) 0 [2,4,5,6,7,18] 16 B2k B88 C6f
theorem B3Q:F0 Tryz.prog T (C2 Tryz.prog 112) 0 (lp (A4 Tryz.prog 112) 0) C8Y :=
 C5 follows B6 hK2 hS2 B2 (A6 _) B3P B5Y C4y
def B3R:B5r→Vm.St
 | .m s z x i=>⟨[(2,.p 0 172 []),(4,.p 1 172 []),(7,.p 5 172 []),(98,.i .i64 i)],(.n (some (.box 172 (.v 172 s) false)) (.n (some (.box 172 (.v 172 z) false)) .e (.n (some (.box 172 (.v 172 x) false)) .e .e)) .e),[],6,some []⟩
def C6g (R:Type) (kx:Exit→Vm.St→Option R):C8s→Option R
 | .o s z x i=>kx (.exit 2) ⟨[(2,.p 0 172 []),(4,.p 1 172 []),(7,.p 5 172 []),(98,.i .i64 i)],(.n (some (.box 172 (.v 172 s) false)) (.n (some (.box 172 (.v 172 z) false)) .e (.n (some (.box 172 (.v 172 x) false)) .e .e)) .e),[],16,some []⟩
def B2l:Vm.St→Option B5r
 | ⟨[(2,.p 0 172 []),(4,.p 1 172 []),(7,.p 5 172 []),(98,.i .i64 i)],(.n (some (.box 172 (.v 172 s) false)) (.n (some (.box 172 (.v 172 z) false)) .e (.n (some (.box 172 (.v 172 x) false)) .e .e)) .e),[],6,some []⟩=>some (.m s z x i)
 | _=>none
theorem B5Z (τ:Vm.St) (x:B5r) (h:B2l τ=some x):τ=B3R x:=by
 unfold B2l at h
 split at h<;>first | (cases h;rfl) | cases h
theorem C4z (R:Type) (of:Nat→Option Ob) (x:B5r) (K:Vm.St→Option R) (kx:Exit→Vm.St→Option R):E8 T K2 (fun _=>none) false FU (C2 Tryz.prog 112) of R (lp (A4 Tryz.prog 112) 1) (B3R x) (H4 0 [2,4,7,98] 16 K kx)=B1X R x (fun x'=>K (B3R x')) (C6g R kx):=by
 cases x with
 | m _ _ _ _=>kernel_rfl
def C8Z:LS:=H9 T K2 (fun _=>none) (C2 Tryz.prog 112) (lp (A4 Tryz.prog 112) 1) 0 [2,4,7,98] 16 B2l B1X C6g
theorem B3S:F0 Tryz.prog T (C2 Tryz.prog 112) 0 (lp (A4 Tryz.prog 112) 1) C8Z :=
 C5 follows B6 hK2 hS2 B2 (A6 _) B3R B5Z C4z
def C80:Nat→LC:=atN 0 [(3,C8Y),(11,C8Z)]
theorem C4A:H8 Tryz.prog T 112 C80:=E7 0 (List.forall_mem_cons.2 ⟨B3Q.1,List.forall_mem_cons.2 ⟨B3S.1,fun _ h=>by cases h⟩⟩) 2 (by kernel_rfl) ⟨⟨trivial,loI (s0:=C8Y) (by kernel_rfl) B3Q⟩,loI (s0:=C8Z) (by kernel_rfl) B3S⟩
def Gmx:FC:=fun R xs k=>match xs with
 | [s,b]=>bif Nat.ble 64 b.els.length then E1 (B88 R) (A2 FU) (.m s z8 (spW b) A2q s 0) (fun | .o s z _ _ x _=>E1 (B1X R) (A2 FU) (.m s z x 0) (fun | .o s _ _ _=>k [.d 172 s])) else none
 | _=>none
theorem C81 (R:Type) (s b:V) (k:List Rs→Option R):C4 Tryz.prog T K2 C80 false FU 112 R (G2 T [172,37] [s,b]) (fun _=>none) 0 (fun out=>ob (H2 T false [.d 172] out) k)=Gmx R [s,b] k:=by kernel_rfl
def C82:List (Nat×E5):=(112,F6 T false [172,37] (Fmx 172))::C8X
theorem A5k:D2 Tryz.prog T C82:=by
 refine A3H (sh:=false) (rk:=[.d 172]) (d:=4) (fu:=FU) (Lo:=C80) (G:=Gmx) follows B6 A9k (C3O 172) (by kernel_rfl) C4A (fun R xs k htv=>?_) (fun xs rs htv hrs=>?_)
 ·match xs,htv.len with
  | [s,b],_=>exact C81 R s b k
 ·match xs,htv,htv.len with
  | [s,b],htv,_ =>
   obtain ⟨e,cs,hs⟩:=htv.head
   obtain ⟨e2,cs2,hx⟩:=htv.tail.head
   obtain ⟨bs,h1,h2⟩:=A6u (T:=T) (el:=5) (kd:=.u8) (by kernel_rfl) (by kernel_rfl) rfl hx
   obtain ⟨ns,rfl,n1,n2⟩:=C8t (T:=T) (n:=8) (el:=23) (kd:=.u32) (by kernel_rfl) (by kernel_rfl) rfl hs
   obtain ⟨s8,hs8,hok⟩:=C8w n1 n2
   rw [hs8] at hrs ⊢
   simp only [Fmx] at hrs
   cases hl:Nat.ble 64 b.els.length with
   | false=>rw [hl] at hrs;cases hrs
   | true =>
    rw [hl] at hrs
    simp only [Gmx,hl,cond_true]
    have hl:=D2N hl
    rw [h1,D2L] at hl
    exact (C3P hok h1 (B9a h2) hl HID (fun w=>some [Rs.d 172 w])).trans hrs
def K3:KC:=E9 Tryz.prog T C82 false FU 4
theorem hK3:K3.nat:=A8 A5k 4
theorem hS3:W5 Tryz.prog T K3.dir:=B4 follows B6 A5k 4
end Go.Proofs.YtadjkmffodhmbaaGreat
namespace Go.Proofs.YtadjkmffodhmbaaGreat
open Go.Vm
set_option maxRecDepth 100000
set_option linter.unusedVariables false
def B3T:B4x→Vm.St
 | .m b xs=>⟨[(0,.v 37 b),(3,.o 1 1)],(.n none (.n (some (.row 5 1 xs false false)) .e .e) .e),[],2,some []⟩
def C6h (R:Type) (kx:Exit→Vm.St→Option R):C7k→Option R
 | .o b xs=>kx (.exit 0) ⟨[(0,.v 37 b),(3,.o 1 1)],(.n none (.n (some (.row 5 1 xs false false)) .e .e) .e),[],8,some []⟩
def B2m:Vm.St→Option B4x
 | ⟨[(0,.v 37 b),(3,.o 1 1)],(.n none (.n (some (.row 5 1 xs false false)) .e .e) .e),[],2,some []⟩=>some (.m b xs)
 | _=>none
theorem B50 (τ:Vm.St) (x:B4x) (h:B2m τ=some x):τ=B3T x:=by
 unfold B2m at h
 split at h<;>first | (cases h;rfl) | cases h
theorem C4B (R:Type) (of:Nat→Option Ob) (x:B4x) (K:Vm.St→Option R) (kx:Exit→Vm.St→Option R):E8 T K3 (fun _=>none) false FU (C2 Tryz.prog 87) of R (lp (A4 Tryz.prog 87) 0) (B3T x) (H4 0 [0,3] 8 K kx)=C2l R x (fun x'=>K (B3T x')) (C6h R kx):=by
 cases x with
 | m _ _=>kernel_rfl
def C83:LS:=H9 T K3 (fun _=>none) (C2 Tryz.prog 87) (lp (A4 Tryz.prog 87) 0) 0 [0,3] 8 B2m C2l C6h
theorem B3U:F0 Tryz.prog T (C2 Tryz.prog 87) 0 (lp (A4 Tryz.prog 87) 0) C83 :=
 C5 follows B6 hK3 hS3 B2 (A6 _) B3T B50 C4B
def C84:Nat→LC:=atN 0 [(2,C83)]
theorem C4C:H8 Tryz.prog T 87 C84:=E7 0 (List.forall_mem_cons.2 ⟨B3U.1,fun _ h=>by cases h⟩) 2 (by kernel_rfl) ⟨⟨trivial,loI (s0:=C83) (by kernel_rfl) B3U⟩,loN (by kernel_rfl)⟩
theorem C85 (R:Type) (b:V) (k:List Rs→Option R):C4 Tryz.prog T K3 C84 false FU 87 R (G2 T [37] [b]) (fun _=>none) 0 (fun out=>ob (H2 T false [.r 5] out) k)=Gpd 5 R [b] k:=by kernel_rfl
def C86:List (Nat×E5):=(87,F6 T false [37] (Fpd 5))::C82
theorem A9l:D2 Tryz.prog T C86:=by
 refine A3H (sh:=false) (rk:=[.r 5]) (d:=4) (fu:=FU) (Lo:=C84) (G:=Gpd 5) follows B6 A5k (C2o 5) (by kernel_rfl) C4C (fun R xs k htv=>?_) (fun xs rs htv hrs=>?_)
 ·match xs,htv.len with
  | [b],_=>exact C85 R b k
 ·match xs,htv.len with
  | [b],_=>exact C7n 5 hrs
def K4:KC:=E9 Tryz.prog T C86 false FU 4
theorem hK4:K4.nat:=A8 A9l 4
theorem hS4:W5 Tryz.prog T K4.dir:=B4 follows B6 A9l 4
def B3V:B4y→Vm.St
 | .m z v xs kk at_ ws i=>⟨[(2,.p 0 34 []),(3,.p 1 146 []),(4,.o 2 1),(5,.p 4 147 []),(6,.i .i64 at_),(7,.o 5 1),(8,.i .i64 i)],(.n (some (.box 34 (.v 34 z) false)) (.n (some (.box 146 (.v 146 v) false)) .e (.n (some (.row 133 1 ws false false)) .e .e)) (.n (some (.row 5 1 xs false false)) (.n (some (.box 147 (.v 147 kk) false)) .e .e) .e)),[],6,some []⟩
def C6i (R:Type) (kx:Exit→Vm.St→Option R):B7u→Option R
 | .o z v xs kk at_ ws i=>kx (.exit 2) ⟨[(2,.p 0 34 []),(3,.p 1 146 []),(4,.o 2 1),(5,.p 4 147 []),(6,.i .i64 at_),(7,.o 5 1),(8,.i .i64 i)],(.n (some (.box 34 (.v 34 z) false)) (.n (some (.box 146 (.v 146 v) false)) .e (.n (some (.row 133 1 ws false false)) .e .e)) (.n (some (.row 5 1 xs false false)) (.n (some (.box 147 (.v 147 kk) false)) .e .e) .e)),[],16,some []⟩
def B2n:Vm.St→Option B4y
 | ⟨[(2,.p 0 34 []),(3,.p 1 146 []),(4,.o 2 1),(5,.p 4 147 []),(6,.i .i64 at_),(7,.o 5 1),(8,.i .i64 i)],(.n (some (.box 34 (.v 34 z) false)) (.n (some (.box 146 (.v 146 v) false)) .e (.n (some (.row 133 1 ws false false)) .e .e)) (.n (some (.row 5 1 xs false false)) (.n (some (.box 147 (.v 147 kk) false)) .e .e) .e)),[],6,some []⟩=>some (.m z v xs kk at_ ws i)
 | _=>none
theorem B51 (τ:Vm.St) (x:B4y) (h:B2n τ=some x):τ=B3V x:=by
 unfold B2n at h
 split at h<;>first | (cases h;rfl) | cases h
theorem C4D (R:Type) (of:Nat→Option Ob) (x:B4y) (K:Vm.St→Option R) (kx:Exit→Vm.St→Option R):E8 T K4 (fun _=>none) false FU (C2 Tryz.prog 67) of R (lp (A4 Tryz.prog 67) 1) (B3V x) (H4 0 [2,3,4,5,6,7,8] 16 K kx)=B1i R x (fun x'=>K (B3V x')) (C6i R kx):=by
 cases x with
 | m _ _ _ _ _ _ _=>kernel_rfl
def C4E:LS:=H9 T K4 (fun _=>none) (C2 Tryz.prog 67) (lp (A4 Tryz.prog 67) 1) 0 [2,3,4,5,6,7,8] 16 B2n B1i C6i
theorem B3W:F0 Tryz.prog T (C2 Tryz.prog 67) 0 (lp (A4 Tryz.prog 67) 1) C4E :=
 C5 follows B6 hK4 hS4 B2 (A6 _) B3V B51 C4D
def B3X:B4z→Vm.St
 | .m z v xs kk at_ ws x i=>⟨[(2,.p 0 34 []),(3,.p 1 146 []),(4,.o 2 1),(5,.p 4 147 []),(6,.i .i64 at_),(7,.o 5 1),(13,.p 16 146 []),(14,.i .i64 i)],(.n (some (.box 34 (.v 34 z) false)) (.n (some (.box 146 (.v 146 v) false)) .e (.n (some (.row 133 1 ws false false)) .e .e)) (.n (some (.row 5 1 xs false false)) (.n (some (.box 147 (.v 147 kk) false)) (.n none (.n (some (.box 146 (.v 146 x) false)) .e .e) .e) .e) .e)),[],17,some []⟩
def C6j (R:Type) (kx:Exit→Vm.St→Option R):C2m→Option R
 | .o z v xs kk at_ ws x i=>kx (.exit 6) ⟨[(2,.p 0 34 []),(3,.p 1 146 []),(4,.o 2 1),(5,.p 4 147 []),(6,.i .i64 at_),(7,.o 5 1),(13,.p 16 146 []),(14,.i .i64 i)],(.n (some (.box 34 (.v 34 z) false)) (.n (some (.box 146 (.v 146 v) false)) .e (.n (some (.row 133 1 ws false false)) .e .e)) (.n (some (.row 5 1 xs false false)) (.n (some (.box 147 (.v 147 kk) false)) (.n none (.n (some (.box 146 (.v 146 x) false)) .e .e) .e) .e) .e)),[],32,some []⟩
def B2o:Vm.St→Option B4z
 | ⟨[(2,.p 0 34 []),(3,.p 1 146 []),(4,.o 2 1),(5,.p 4 147 []),(6,.i .i64 at_),(7,.o 5 1),(13,.p 16 146 []),(14,.i .i64 i)],(.n (some (.box 34 (.v 34 z) false)) (.n (some (.box 146 (.v 146 v) false)) .e (.n (some (.row 133 1 ws false false)) .e .e)) (.n (some (.row 5 1 xs false false)) (.n (some (.box 147 (.v 147 kk) false)) (.n none (.n (some (.box 146 (.v 146 x) false)) .e .e) .e) .e) .e)),[],17,some []⟩=>some (.m z v xs kk at_ ws x i)
 | _=>none
theorem B52 (τ:Vm.St) (x:B4z) (h:B2o τ=some x):τ=B3X x:=by
 unfold B2o at h
 split at h<;>first | (cases h;rfl) | cases h
theorem C4F (R:Type) (of:Nat→Option Ob) (x:B4z) (K:Vm.St→Option R) (kx:Exit→Vm.St→Option R):E8 T K4 (fun _=>none) false FU (C2 Tryz.prog 67) of R (lp (A4 Tryz.prog 67) 3) (B3X x) (H4 0 [2,3,4,5,6,7,13,14] 32 K kx)=B7v R x (fun x'=>K (B3X x')) (C6j R kx):=by
 cases x with
 | m _ _ _ _ _ _ _ _=>kernel_rfl
def C4G:LS:=H9 T K4 (fun _=>none) (C2 Tryz.prog 67) (lp (A4 Tryz.prog 67) 3) 0 [2,3,4,5,6,7,13,14] 32 B2o B7v C6j
theorem B3Y:F0 Tryz.prog T (C2 Tryz.prog 67) 0 (lp (A4 Tryz.prog 67) 3) C4G :=
 C5 follows B6 hK4 hS4 B2 (A6 _) B3X B52 C4F
def B3Z:B4A→Vm.St
 | .m z v xs kk at_=>⟨[(2,.p 0 34 []),(3,.p 1 146 []),(4,.o 2 1),(5,.p 4 147 []),(6,.i .i64 at_)],(.n (some (.box 34 (.v 34 z) false)) (.n (some (.box 146 (.v 146 v) false)) .e .e) (.n (some (.row 5 1 xs false false)) (.n (some (.box 147 (.v 147 kk) false)) .e .e) .e)),[],5,some []⟩
def C6k (R:Type) (kx:Exit→Vm.St→Option R):C7l→Option R
 | .o z v xs kk at_=>kx (.exit 0) ⟨[(2,.p 0 34 []),(3,.p 1 146 []),(4,.o 2 1),(5,.p 4 147 []),(6,.i .i64 at_)],(.n (some (.box 34 (.v 34 z) false)) (.n (some (.box 146 (.v 146 v) false)) .e .e) (.n (some (.row 5 1 xs false false)) (.n (some (.box 147 (.v 147 kk) false)) .e .e) .e)),[],64,some []⟩
def B2p:Vm.St→Option B4A
 | ⟨[(2,.p 0 34 []),(3,.p 1 146 []),(4,.o 2 1),(5,.p 4 147 []),(6,.i .i64 at_)],(.n (some (.box 34 (.v 34 z) false)) (.n (some (.box 146 (.v 146 v) false)) .e .e) (.n (some (.row 5 1 xs false false)) (.n (some (.box 147 (.v 147 kk) false)) .e .e) .e)),[],5,some []⟩=>some (.m z v xs kk at_)
 | _=>none
theorem B53 (τ:Vm.St) (x:B4A) (h:B2p τ=some x):τ=B3Z x:=by
 unfold B2p at h
 split at h<;>first | (cases h;rfl) | cases h
theorem C4H (R:Type) (of:Nat→Option Ob) (x:B4A) (K:Vm.St→Option R) (kx:Exit→Vm.St→Option R):E8 T K4 (loT [(9,C4E),(23,C4G)]) false FU (C2 Tryz.prog 67) of R (lp (A4 Tryz.prog 67) 0) (B3Z x) (H4 0 [2,3,4,5,6] 64 K kx)=C2n R x (fun x'=>K (B3Z x')) (C6k R kx):=by
 cases x with
 | m _ _ _ _ _=>kernel_rfl
def C87:LS:=H9 T K4 (loT [(9,C4E),(23,C4G)]) (C2 Tryz.prog 67) (lp (A4 Tryz.prog 67) 0) 0 [2,3,4,5,6] 64 B2p C2n C6k
theorem B30:F0 Tryz.prog T (C2 Tryz.prog 67) 0 (lp (A4 Tryz.prog 67) 0) C87 :=
 C5 follows B6 hK4 hS4 (A5d (List.forall_mem_cons.2 ⟨B3W.1,List.forall_mem_cons.2 ⟨B3Y.1,fun _ h=>by cases h⟩⟩)) (A1U 5 (by kernel_rfl) ⟨⟨⟨⟨⟨trivial,loI (s0:=C4E) (by kernel_rfl) ((show lp (lp (A4 Tryz.prog 67) 0) 0=lp (A4 Tryz.prog 67) 1 from by kernel_rfl) ▸ B3W)⟩,loN (by kernel_rfl)⟩,loI (s0:=C4G) (by kernel_rfl) ((show lp (lp (A4 Tryz.prog 67) 0) 2=lp (A4 Tryz.prog 67) 3 from by kernel_rfl) ▸ B3Y)⟩,loN (by kernel_rfl)⟩,loN (by kernel_rfl)⟩) B3Z B53 C4H
def C88:Nat→LC:=atN 0 [(5,C87)]
theorem C4I:H8 Tryz.prog T 67 C88:=E7 0 (List.forall_mem_cons.2 ⟨B30.1,fun _ h=>by cases h⟩) 8 (by kernel_rfl) ⟨⟨⟨⟨⟨⟨⟨⟨trivial,loI (s0:=C87) (by kernel_rfl) B30⟩,loN (by kernel_rfl)⟩,loN (by kernel_rfl)⟩,loN (by kernel_rfl)⟩,loN (by kernel_rfl)⟩,loN (by kernel_rfl)⟩,loN (by kernel_rfl)⟩,loN (by kernel_rfl)⟩
theorem C89 (R:Type) (b:V) (k:List Rs→Option R):C4 Tryz.prog T K4 C88 false FU 67 R (G2 T [37] [b]) (fun _=>none) 0 (fun out=>ob (H2 T false [.d 34] out) k)=Gsm 34 R [b] k:=by kernel_rfl
def C9a:List (Nat×E5):=(67,F6 T false [37] (Fsm 34))::C86
theorem A5l:D2 Tryz.prog T C9a:=by
 refine A3H (sh:=false) (rk:=[.d 34]) (d:=4) (fu:=FU) (Lo:=C88) (G:=Gsm 34) follows B6 A9l (C2t 34) (by kernel_rfl) C4I (fun R xs k htv=>?_) (fun xs rs htv hrs=>?_)
 ·match xs,htv.len with
  | [b],_=>exact C89 R b k
 ·match xs,htv,htv.len with
  | [b],htv,_ =>
   obtain ⟨e,cs,hx⟩:=htv.head
   obtain ⟨bs,h1,h2⟩:=A6u (T:=T) (el:=5) (kd:=.u8) (by kernel_rfl) (by kernel_rfl) rfl hx
   exact C7s 34 h1 (B9a h2) hrs
def K5:KC:=E9 Tryz.prog T C9a false FU 4
theorem hK5:K5.nat:=A8 A5l 4
theorem hS5:W5 Tryz.prog T K5.dir:=B4 follows B6 A5l 4
end Go.Proofs.YtadjkmffodhmbaaGreat
namespace Go.Proofs.YtadjkmffodhmbaaGreat
open Go.Vm
set_option maxRecDepth 100000
set_option linter.unusedVariables false
set_option linter.constructorNameAsVariable false
def C4J:PRn→Vm.St
 | .m l n i=>⟨[(2,.b false),(5,.v 22 l),(6,.i .i64 n),(7,.i .i64 i)],.e,[],0,some []⟩
def D1b (R:Type) (kx:Exit→Vm.St→Option R):QRn→Option R
 | .o l n i=>kx (.exit 0) ⟨[(2,.b false),(5,.v 22 l),(6,.i .i64 n),(7,.i .i64 i)],.e,[],64,some []⟩
 | .r l n i=>kx (.ret) ⟨[(2,.b false),(5,.v 22 l),(6,.i .i64 n),(7,.i .i64 i)],.e,[],64,some []⟩
def B96:Vm.St→Option PRn
 | ⟨[(2,.b false),(5,.v 22 l),(6,.i .i64 n),(7,.i .i64 i)],.e,[],0,some []⟩=>some (.m l n i)
 | _=>none
theorem B97 (τ:Vm.St) (x:PRn) (h:B96 τ=some x):τ=C4J x:=by
 unfold B96 at h
 split at h<;>first | (cases h;rfl) | cases h
theorem C9b (R:Type) (of:Nat→Option Ob) (x:PRn) (K:Vm.St→Option R) (kx:Exit→Vm.St→Option R):E8 T K5 (fun _=>none) false FU (C2 Tryz.prog 8) of R (lp (A4 Tryz.prog 8) 0) (C4J x) (H4 0 [999999,2,5,6,7] 64 K kx)=BRn R x (fun x'=>K (C4J x')) (D1b R kx):=by
 cases x with
 | m _ _ _=>kernel_rfl
def HRn:LS:=H9 T K5 (fun _=>none) (C2 Tryz.prog 8) (lp (A4 Tryz.prog 8) 0) 0 [999999,2,5,6,7] 64 B96 BRn D1b
theorem B98:F0 Tryz.prog T (C2 Tryz.prog 8) 0 (lp (A4 Tryz.prog 8) 0) HRn :=
 C5 follows B6 hK5 hS5 B2 (A6 _) C4J B97 C9b
def C9c:Nat→LC:=atN 0 [(2,HRn)]
theorem C4K:H8 Tryz.prog T 8 C9c:=E7 0 (List.forall_mem_cons.2 ⟨B98.1,fun _ h=>by cases h⟩) 1 (by kernel_rfl) ⟨trivial,loI (s0:=HRn) (by kernel_rfl) B98⟩
theorem C9d (l:V):C4 Tryz.prog T K5 C9c false FU 8 (List Rs) (G2 T [22] [l]) (fun _=>none) 0 (fun out=>H2 T true [.d 4] out)=rnG 4 l:=by kernel_rfl
def C9e:List (Nat×E5):=(8,F6 T true [22] (gF rng (rnr 4)))::C9a
theorem A9m:D2 Tryz.prog T C9e:=by
 refine B8 (sh:=true) (rk:=[.d 4]) (d:=4) (fu:=FU) (Lo:=C9c) (ds:=[.slice A2X]) follows B6 A5l (by kernel_rfl) C4K 40 (by kernel_rfl) (fun xs hd hg=>?_)
 obtain ⟨a,rfl,ha⟩:=S4 hd
 exact (C9d a).trans (C5v hg)
def K6:KC:=E9 Tryz.prog T C9e false FU 4
theorem hK6:K6.nat:=A8 A9m 4
theorem hS6:W5 Tryz.prog T K6.dir:=B4 follows B6 A9m 4
def C4L:PSa→Vm.St
 | .m a b n i=>⟨[(0,.v 22 a),(1,.v 22 b),(4,.b false),(12,.i .i64 n),(13,.i .i64 i)],.e,[],0,some []⟩
def D1c (R:Type) (kx:Exit→Vm.St→Option R):QSa→Option R
 | .o a b n i=>kx (.exit 0) ⟨[(0,.v 22 a),(1,.v 22 b),(4,.b false),(12,.i .i64 n),(13,.i .i64 i)],.e,[],64,some []⟩
 | .r a b n i=>kx (.ret) ⟨[(0,.v 22 a),(1,.v 22 b),(4,.b false),(12,.i .i64 n),(13,.i .i64 i)],.e,[],64,some []⟩
def B99:Vm.St→Option PSa
 | ⟨[(0,.v 22 a),(1,.v 22 b),(4,.b false),(12,.i .i64 n),(13,.i .i64 i)],.e,[],0,some []⟩=>some (.m a b n i)
 | _=>none
theorem C0a (τ:Vm.St) (x:PSa) (h:B99 τ=some x):τ=C4L x:=by
 unfold B99 at h
 split at h<;>first | (cases h;rfl) | cases h
theorem C9f (R:Type) (of:Nat→Option Ob) (x:PSa) (K:Vm.St→Option R) (kx:Exit→Vm.St→Option R):E8 T K6 (fun _=>none) false FU (C2 Tryz.prog 15) of R (lp (A4 Tryz.prog 15) 0) (C4L x) (H4 0 [999999,0,1,4,12,13] 64 K kx)=BSa R x (fun x'=>K (C4L x')) (D1c R kx):=by
 cases x with
 | m _ _ _ _=>kernel_rfl
def HSa:LS:=H9 T K6 (fun _=>none) (C2 Tryz.prog 15) (lp (A4 Tryz.prog 15) 0) 0 [999999,0,1,4,12,13] 64 B99 BSa D1c
theorem C0b:F0 Tryz.prog T (C2 Tryz.prog 15) 0 (lp (A4 Tryz.prog 15) 0) HSa :=
 C5 follows B6 hK6 hS6 B2 (A6 _) C4L C0a C9f
def C9g:Nat→LC:=atN 0 [(4,HSa)]
theorem C4M:H8 Tryz.prog T 15 C9g:=E7 0 (List.forall_mem_cons.2 ⟨C0b.1,fun _ h=>by cases h⟩) 1 (by kernel_rfl) ⟨trivial,loI (s0:=HSa) (by kernel_rfl) C0b⟩
theorem C9h (l m:V):C4 Tryz.prog T K6 C9g false FU 15 (List Rs) (G2 T [22,22] [l,m]) (fun _=>none) 0 (fun out=>H2 T true [.d 4] out)=saG 4 l m:=by kernel_rfl
def C9i:List (Nat×E5):=(15,F6 T true [22,22] (gF sag (sar 4)))::C9e
theorem A9n:D2 Tryz.prog T C9i:=by
 refine B8 (sh:=true) (rk:=[.d 4]) (d:=4) (fu:=FU) (Lo:=C9g) (ds:=[.slice A2X,.slice A2X]) follows B6 A9m (by kernel_rfl) C4M 40 (by kernel_rfl) (fun xs hd hg=>?_)
 obtain ⟨a,b,rfl,ha,hb⟩:=A14 hd
 exact (C9h a b).trans (C5w hg)
def K7:KC:=E9 Tryz.prog T C9i false FU 4
theorem hK7:K7.nat:=A8 A9n 4
theorem hS7:W5 Tryz.prog T K7.dir:=B4 follows B6 A9n 4
def C4N:PNi→Vm.St
 | .m xs e a l n i=>⟨[(3,.o 0 1),(5,.p 1 65 []),(6,.i .i64 a),(9,.v 22 l),(10,.i .i64 n),(11,.i .i64 i)],(.n (some (.row 9 1 xs false false)) (.n (some (.box 65 (.v 65 e) false)) .e .e) .e),[],2,some []⟩
def D1d (R:Type) (kx:Exit→Vm.St→Option R):QNi→Option R
 | .o xs e a l n i=>kx (.exit 2) ⟨[(3,.o 0 1),(5,.p 1 65 []),(6,.i .i64 a),(9,.v 22 l),(10,.i .i64 n),(11,.i .i64 i)],(.n (some (.row 9 1 xs false false)) (.n (some (.box 65 (.v 65 e) false)) .e .e) .e),[],64,some []⟩
def C0c:Vm.St→Option PNi
 | ⟨[(3,.o 0 1),(5,.p 1 65 []),(6,.i .i64 a),(9,.v 22 l),(10,.i .i64 n),(11,.i .i64 i)],(.n (some (.row 9 1 xs false false)) (.n (some (.box 65 (.v 65 e) false)) .e .e) .e),[],2,some []⟩=>some (.m xs e a l n i)
 | _=>none
theorem C0d (τ:Vm.St) (x:PNi) (h:C0c τ=some x):τ=C4N x:=by
 unfold C0c at h
 split at h<;>first | (cases h;rfl) | cases h
theorem C9j (R:Type) (of:Nat→Option Ob) (x:PNi) (K:Vm.St→Option R) (kx:Exit→Vm.St→Option R):E8 T K7 (fun _=>none) false FU (C2 Tryz.prog 43) of R (lp (A4 Tryz.prog 43) 1) (C4N x) (H4 0 [999999,3,5,6,9,10,11] 64 K kx)=BNi R x (fun x'=>K (C4N x')) (D1d R kx):=by
 cases x with
 | m _ _ _ _ _ _=>kernel_rfl
def HNi:LS:=H9 T K7 (fun _=>none) (C2 Tryz.prog 43) (lp (A4 Tryz.prog 43) 1) 0 [999999,3,5,6,9,10,11] 64 C0c BNi D1d
theorem C0e:F0 Tryz.prog T (C2 Tryz.prog 43) 0 (lp (A4 Tryz.prog 43) 1) HNi :=
 C5 follows B6 hK7 hS7 B2 (A6 _) C4N C0d C9j
def C4O:PNo→Vm.St
 | .m xs l n i=>⟨[(3,.o 0 1),(9,.v 22 l),(10,.i .i64 n),(11,.i .i64 i)],(.n (some (.row 9 1 xs false false)) .e .e),[],1,some []⟩
def D1e (R:Type) (kx:Exit→Vm.St→Option R):QNo→Option R
 | .o xs l n i=>kx (.exit 0) ⟨[(3,.o 0 1),(9,.v 22 l),(10,.i .i64 n),(11,.i .i64 i)],(.n (some (.row 9 1 xs false false)) .e .e),[],128,some []⟩
def C0f:Vm.St→Option PNo
 | ⟨[(3,.o 0 1),(9,.v 22 l),(10,.i .i64 n),(11,.i .i64 i)],(.n (some (.row 9 1 xs false false)) .e .e),[],1,some []⟩=>some (.m xs l n i)
 | _=>none
theorem C0g (τ:Vm.St) (x:PNo) (h:C0f τ=some x):τ=C4O x:=by
 unfold C0f at h
 split at h<;>first | (cases h;rfl) | cases h
theorem C9k (R:Type) (of:Nat→Option Ob) (x:PNo) (K:Vm.St→Option R) (kx:Exit→Vm.St→Option R):E8 T K7 (loT [(6,HNi)]) false FU (C2 Tryz.prog 43) of R (lp (A4 Tryz.prog 43) 0) (C4O x) (H4 0 [999999,3,9,10,11] 128 K kx)=BNo R x (fun x'=>K (C4O x')) (D1e R kx):=by
 cases x with
 | m _ _ _ _=>kernel_rfl
def HNo:LS:=H9 T K7 (loT [(6,HNi)]) (C2 Tryz.prog 43) (lp (A4 Tryz.prog 43) 0) 0 [999999,3,9,10,11] 128 C0f BNo D1e
theorem C0h:F0 Tryz.prog T (C2 Tryz.prog 43) 0 (lp (A4 Tryz.prog 43) 0) HNo :=
 C5 follows B6 hK7 hS7 (A5d (List.forall_mem_cons.2 ⟨C0e.1,fun _ h=>by cases h⟩)) (A1U 1 (by kernel_rfl) ⟨trivial,loI (s0:=HNi) (by kernel_rfl) ((show lp (lp (A4 Tryz.prog 43) 0) 0=lp (A4 Tryz.prog 43) 1 from by kernel_rfl) ▸ C0e)⟩) C4O C0g C9k
def C9l:Nat→LC:=atN 0 [(3,HNo)]
theorem C4P:H8 Tryz.prog T 43 C9l:=E7 0 (List.forall_mem_cons.2 ⟨C0h.1,fun _ h=>by cases h⟩) 2 (by kernel_rfl) ⟨⟨trivial,loI (s0:=HNo) (by kernel_rfl) C0h⟩,loN (by kernel_rfl)⟩
theorem C9m (l:V):C4 Tryz.prog T K7 C9l false FU 43 (List Rs) (G2 T [22] [l]) (fun _=>none) 0 (fun out=>H2 T true [.r 9] out)=noG 9 l:=by kernel_rfl
def C9n:List (Nat×E5):=(43,F6 T true [22] (gF nmg (nmr 9)))::C9i
theorem A9o:D2 Tryz.prog T C9n:=by
 refine B8 (sh:=true) (rk:=[.r 9]) (d:=4) (fu:=FU) (Lo:=C9l) (ds:=[.slice A2X]) follows B6 A9n (by kernel_rfl) C4P 40 (by kernel_rfl) (fun xs hd hg=>?_)
 obtain ⟨a,rfl,ha⟩:=S4 hd
 exact (C9m a).trans (C5x hg)
def K8:KC:=E9 Tryz.prog T C9n false FU 4
theorem hK8:K8.nat:=A8 A9o 4
theorem hS8:W5 Tryz.prog T K8.dir:=B4 follows B6 A9o 4
def C4Q:PHn→Vm.St
 | .m nm l xs n i=>⟨[(1,.s nm),(5,.o 0 1),(9,.v 22 l),(10,.i .i64 n),(11,.i .i64 i)],(.n (some (.row 65 1 xs false false)) .e .e),[],1,some []⟩
def D1f (R:Type) (kx:Exit→Vm.St→Option R):QHn→Option R
 | .o nm l xs n i=>kx (.exit 0) ⟨[(1,.s nm),(5,.o 0 1),(9,.v 22 l),(10,.i .i64 n),(11,.i .i64 i)],(.n (some (.row 65 1 xs false false)) .e .e),[],64,some []⟩
def C0i:Vm.St→Option PHn
 | ⟨[(1,.s nm),(5,.o 0 1),(9,.v 22 l),(10,.i .i64 n),(11,.i .i64 i)],(.n (some (.row 65 1 xs false false)) .e .e),[],1,some []⟩=>some (.m nm l xs n i)
 | _=>none
theorem C0j (τ:Vm.St) (x:PHn) (h:C0i τ=some x):τ=C4Q x:=by
 unfold C0i at h
 split at h<;>first | (cases h;rfl) | cases h
theorem C9o (R:Type) (of:Nat→Option Ob) (x:PHn) (K:Vm.St→Option R) (kx:Exit→Vm.St→Option R):E8 T K8 (fun _=>none) false FU (C2 Tryz.prog 21) of R (lp (A4 Tryz.prog 21) 0) (C4Q x) (H4 0 [999999,1,5,9,10,11] 64 K kx)=BHn R x (fun x'=>K (C4Q x')) (D1f R kx):=by
 cases x with
 | m _ _ _ _ _=>kernel_rfl
def HHn:LS:=H9 T K8 (fun _=>none) (C2 Tryz.prog 21) (lp (A4 Tryz.prog 21) 0) 0 [999999,1,5,9,10,11] 64 C0i BHn D1f
theorem C0k:F0 Tryz.prog T (C2 Tryz.prog 21) 0 (lp (A4 Tryz.prog 21) 0) HHn :=
 C5 follows B6 hK8 hS8 B2 (A6 _) C4Q C0j C9o
def C9p:Nat→LC:=atN 0 [(3,HHn)]
theorem C4R:H8 Tryz.prog T 21 C9p:=E7 0 (List.forall_mem_cons.2 ⟨C0k.1,fun _ h=>by cases h⟩) 1 (by kernel_rfl) ⟨trivial,loI (s0:=HHn) (by kernel_rfl) C0k⟩
theorem C9q (l:V) (n:List V):C4 Tryz.prog T K8 C9p false FU 21 (List Rs) (G2 T [22,9] [l,.s n]) (fun _=>none) 0 (fun out=>H2 T true [.r 65] out)=hiG 65 noE l n:=by kernel_rfl
def C9r:List (Nat×E5):=(21,F6 T true [22,9] (gF hig (hir 65)))::C9n
theorem A9p:D2 Tryz.prog T C9r:=by
 refine B8 (sh:=true) (rk:=[.r 65]) (d:=4) (fu:=FU) (Lo:=C9p) (ds:=[.slice A2X,.str]) follows B6 A9o (by kernel_rfl) C4R 40 (by kernel_rfl) (fun xs hd hg=>?_)
 obtain ⟨a,b,rfl,ha,hb⟩:=A14 hd
 obtain ⟨ns,rfl,_⟩:=hb
 exact (C9q a _).trans (C5y hg)
def K9:KC:=E9 Tryz.prog T C9r false FU 4
theorem hK9:K9.nat:=A8 A9p 4
theorem hS9:W5 Tryz.prog T K9.dir:=B4 follows B6 A9p 4
theorem C4S  : C4 Tryz.prog T K9 (fun _ _=>none) false FU 46 (List Rs) (G2 T [22] [.n]) (fun _=>none) 0 (fun out=>H2 T true [.r 65] out)=some [.r 65 [] true]:=by kernel_rfl
theorem C9s (l:List V):C4 Tryz.prog T K9 (fun _ _=>none) false FU 46 (List Rs) (G2 T [22] [.l l]) (fun _=>none) 0 (fun out=>H2 T true [.r 65] out)=(N0 (0+l.length) <| some [.r 65 l false]):=by kernel_rfl
def C0l:List (Nat×E5):=(46,F6 T true [22] (gF clg (clr 65)))::C9r
theorem A6Y:D2 Tryz.prog T C0l:=by
 refine B8 (sh:=true) (rk:=[.r 65]) (d:=4) (fu:=FU) (Lo:=(fun _ _=>none)) (ds:=[.slice A2X]) follows B6 A9p (by kernel_rfl) E3 40 (by kernel_rfl) (fun xs hd hg=>?_)
 obtain ⟨a,rfl,ha⟩:=S4 hd
 rcases ha with rfl | ⟨l,rfl,_⟩
 ·exact C4S
 ·have hl:l.length≤10000:=D2N hg
  refine (C9s l).trans ?_
  rw [B3 (by omega)];rfl
def K10:KC:=E9 Tryz.prog T C0l false FU 4
theorem D2o:K10.nat:=A8 A6Y 4
theorem D2p:W5 Tryz.prog T K10.dir:=B4 follows B6 A6Y 4
end Go.Proofs.YtadjkmffodhmbaaGreat
namespace Go.Proofs.YtadjkmffodhmbaaGreat
open Go.Vm Go.Shelf Go.Proofs
set_option maxRecDepth 100000
set_option linter.unusedVariables false
def Tryz.keysA_ren:Go.Shelf.Ren:=⟨fun | 7=>61 | 10=>79 | n=>n,fun | 23=>91 | 26=>9 | 3=>22 | 28=>127 | 0=>0 | 27=>126 | 33=>143 | 4=>4 | n=>n,fun | n=>n⟩
theorem Tryz.keysA:Go.Proofs.SlLaysZ.n7 Tryz.prog Tryz.keysA_ren:={
 mixed:=by kernel_rfl
 f7:=⟨Tryz.f61.name,by decide,Tryz.func61.trans (congrArg some (by kernel_rfl))⟩
 f10:=⟨Tryz.f79.name,by decide,Tryz.func79.trans (congrArg some (by kernel_rfl))⟩
 t0:=Tryz.underlying0
 a0:=Tryz.isAgg0
 z0:=Tryz.sizeOf0
 v0:=Tryz.zeroValue0
 t4:=Tryz.underlying4
 a4:=Tryz.isAgg4
 z4:=Tryz.sizeOf4
 v4:=Tryz.zeroValue4
 t23:=Tryz.underlying91
 a23:=Tryz.isAgg91
 z23:=Tryz.sizeOf91
 v23:=Tryz.zeroValue91
 t26:=Tryz.underlying9
 a26:=Tryz.isAgg9
 z26:=Tryz.sizeOf9
 v26:=Tryz.zeroValue9
 t27:=Tryz.underlying126
 a27:=Tryz.isAgg126
 z27:=Tryz.sizeOf126
 v27:=Tryz.zeroValue126
 t28:=Tryz.underlying127
 a28:=Tryz.isAgg127
 z28:=Tryz.sizeOf127
 v28:=Tryz.zeroValue127
 t33:=Tryz.underlying143
 a33:=Tryz.isAgg143
 z33:=Tryz.sizeOf143
 v33:=Tryz.zeroValue143 }
def Tryz.sortedA_ren:Go.Shelf.Ren:=⟨fun | 6=>60 | 8=>77 | 9=>78 | 11=>91 | 13=>93 | 12=>92 | 23=>109 | 24=>110 | 14=>100 | 15=>101 | 16=>102 | 17=>103 | 18=>104 | 19=>105 | 20=>106 | 21=>107 | 22=>108 | 25=>113 | 26=>114 | 27=>115 | 28=>116 | 29=>117 | 30=>118 | 31=>122 | n=>n,fun | 26=>9 | 28=>127 | 24=>74 | 0=>0 | 3=>3 | 37=>151 | 48=>23 | 50=>133 | 4=>4 | 40=>162 | 39=>161 | 45=>167 | 5=>5 | 9=>9 | 51=>177 | 55=>181 | 57=>187 | 58=>188 | 33=>143 | n=>n,fun | n=>n⟩
theorem Tryz.sortedA:Go.Proofs.SlLaysZ.n6 Tryz.prog Tryz.sortedA_ren:={
 mixed:=by kernel_rfl
 f6:=⟨Tryz.f60.name,by decide,Tryz.func60.trans (congrArg some (by kernel_rfl))⟩
 f8:=⟨Tryz.f77.name,by decide,Tryz.func77.trans (congrArg some (by kernel_rfl))⟩
 f11:=⟨Tryz.f91.name,by decide,Tryz.func91.trans (congrArg some (by kernel_rfl))⟩
 t0:=Tryz.underlying0
 a0:=Tryz.isAgg0
 z0:=Tryz.sizeOf0
 v0:=Tryz.zeroValue0
 t24:=Tryz.underlying74
 a24:=Tryz.isAgg74
 z24:=Tryz.sizeOf74
 v24:=Tryz.zeroValue74
 t26:=Tryz.underlying9
 a26:=Tryz.isAgg9
 z26:=Tryz.sizeOf9
 v26:=Tryz.zeroValue9
 t28:=Tryz.underlying127
 a28:=Tryz.isAgg127
 z28:=Tryz.sizeOf127
 v28:=Tryz.zeroValue127
 i26:=by kernel_rfl }
def Tryz.sortA_ren:Go.Shelf.Ren:=⟨fun | 6=>78 | 8=>93 | 9=>92 | 19=>109 | 20=>110 | 21=>100 | 22=>101 | 23=>102 | 24=>103 | 25=>104 | 26=>105 | 27=>106 | 28=>107 | 29=>108 | 36=>113 | 31=>114 | 32=>115 | 37=>116 | 38=>117 | 39=>118 | 41=>122 | n=>n,fun | 27=>74 | 29=>9 | 3=>3 | 32=>151 | 26=>74 | 0=>0 | 44=>23 | 46=>133 | 4=>4 | 36=>162 | 35=>161 | 41=>167 | 5=>5 | 9=>9 | 53=>177 | 57=>181 | 63=>187 | 64=>188 | n=>n,fun | n=>n⟩
theorem Tryz.sortA:Go.Proofs.SlLaysM.n6 Tryz.prog Tryz.sortA_ren:={
 mixed:=by kernel_rfl
 f6:=⟨Tryz.f78.name,by decide,Tryz.func78.trans (congrArg some (by kernel_rfl))⟩
 f8:=Tryz.func93.trans (congrArg some (by kernel_rfl))
 f9:=⟨Tryz.f92.name,by decide,Tryz.func92.trans (congrArg some (by kernel_rfl))⟩
 f19:=Tryz.func109.trans (congrArg some (by kernel_rfl))
 f20:=Tryz.func110.trans (congrArg some (by kernel_rfl))
 f21:=⟨Tryz.f100.name,by decide,Tryz.func100.trans (congrArg some (by kernel_rfl))⟩
 f22:=⟨Tryz.f101.name,by decide,Tryz.func101.trans (congrArg some (by kernel_rfl))⟩
 f23:=⟨Tryz.f102.name,by decide,Tryz.func102.trans (congrArg some (by kernel_rfl))⟩
 f24:=⟨Tryz.f103.name,by decide,Tryz.func103.trans (congrArg some (by kernel_rfl))⟩
 f25:=⟨Tryz.f104.name,by decide,Tryz.func104.trans (congrArg some (by kernel_rfl))⟩
 f26:=⟨Tryz.f105.name,by decide,Tryz.func105.trans (congrArg some (by kernel_rfl))⟩
 f27:=⟨Tryz.f106.name,by decide,Tryz.func106.trans (congrArg some (by kernel_rfl))⟩
 f28:=⟨Tryz.f107.name,by decide,Tryz.func107.trans (congrArg some (by kernel_rfl))⟩
 f29:=⟨Tryz.f108.name,by decide,Tryz.func108.trans (congrArg some (by kernel_rfl))⟩
 f31:=Tryz.func114.trans (congrArg some (by kernel_rfl))
 f32:=Tryz.func115.trans (congrArg some (by kernel_rfl))
 f36:=⟨Tryz.f113.name,by decide,Tryz.func113.trans (congrArg some (by kernel_rfl))⟩
 f37:=⟨Tryz.f116.name,by decide,Tryz.func116.trans (congrArg some (by kernel_rfl))⟩
 f38:=⟨Tryz.f117.name,by decide,Tryz.func117.trans (congrArg some (by kernel_rfl))⟩
 f39:=⟨Tryz.f118.name,by decide,Tryz.func118.trans (congrArg some (by kernel_rfl))⟩
 f41:=⟨Tryz.f122.name,by decide,Tryz.func122.trans (congrArg some (by kernel_rfl))⟩
 t0:=Tryz.underlying0
 a0:=Tryz.isAgg0
 z0:=Tryz.sizeOf0
 v0:=Tryz.zeroValue0
 t3:=Tryz.underlying3
 a3:=Tryz.isAgg3
 z3:=Tryz.sizeOf3
 v3:=Tryz.zeroValue3
 t4:=Tryz.underlying4
 a4:=Tryz.isAgg4
 z4:=Tryz.sizeOf4
 v4:=Tryz.zeroValue4
 t5:=Tryz.underlying5
 a5:=Tryz.isAgg5
 z5:=Tryz.sizeOf5
 v5:=Tryz.zeroValue5
 t9:=Tryz.underlying9
 a9:=Tryz.isAgg9
 z9:=Tryz.sizeOf9
 v9:=Tryz.zeroValue9
 t26:=Tryz.underlying74
 a26:=Tryz.isAgg74
 z26:=Tryz.sizeOf74
 v26:=Tryz.zeroValue74
 t27:=Tryz.underlying74
 a27:=Tryz.isAgg74
 z27:=Tryz.sizeOf74
 v27:=Tryz.zeroValue74
 t29:=Tryz.underlying9
 a29:=Tryz.isAgg9
 z29:=Tryz.sizeOf9
 v29:=Tryz.zeroValue9
 t32:=Tryz.underlying151
 a32:=Tryz.isAgg151
 z32:=Tryz.sizeOf151
 v32:=Tryz.zeroValue151
 t35:=Tryz.underlying161
 a35:=Tryz.isAgg161
 z35:=Tryz.sizeOf161
 v35:=Tryz.zeroValue161
 t36:=Tryz.underlying162
 a36:=Tryz.isAgg162
 z36:=Tryz.sizeOf162
 v36:=Tryz.zeroValue162
 t41:=Tryz.underlying167
 a41:=Tryz.isAgg167
 z41:=Tryz.sizeOf167
 v41:=Tryz.zeroValue167
 t44:=Tryz.underlying23
 a44:=Tryz.isAgg23
 z44:=Tryz.sizeOf23
 v44:=Tryz.zeroValue23
 t46:=Tryz.underlying133
 a46:=Tryz.isAgg133
 z46:=Tryz.sizeOf133
 v46:=Tryz.zeroValue133
 t53:=Tryz.underlying177
 a53:=Tryz.isAgg177
 z53:=Tryz.sizeOf177
 v53:=Tryz.zeroValue177
 t57:=Tryz.underlying181
 a57:=Tryz.isAgg181
 z57:=Tryz.sizeOf181
 v57:=Tryz.zeroValue181
 t63:=Tryz.underlying187
 a63:=Tryz.isAgg187
 z63:=Tryz.sizeOf187
 v63:=Tryz.zeroValue187
 t64:=Tryz.underlying188
 a64:=Tryz.isAgg188
 z64:=Tryz.sizeOf188
 v64:=Tryz.zeroValue188 }
theorem C9t (m:Nat):AnyZ.SortsIn Tryz.prog Tryz.sortedA_ren Fence.wide m :=
 ⟨fun blk off cap ss W hH hblk hsz=>callsIn_wide.2 (AnyM.slices_Sort_string Tryz.sortA blk off cap ss W hH hblk hsz),
  fun p cap W=>callsIn_wide.2 (AnyM.slices_Sort_string_none Tryz.sortA p cap W)⟩
theorem A6Z:A55 Tryz.prog 60 79 9:=by
 intro Bm b nn D0 R w hBm hcell hown hsize
 have hmax:Maps.size D0≤maxLen:=Nat.le_trans hsize (by decide)
 have hseq:SeqGives Fence.wide 2 Tryz.prog 79 #[.pointer (some ⟨Bm,0,none⟩)] encStr (fun ss=>ss.Perm (strKeys D0)) (Maps.size D0) w:=AnyZ.keys_gives (ρ:=Tryz.keysA_ren) { Tryz.keysA with } Fence.wide _ trivial rfl (by omega) Bm b nn D0 w hBm hcell hown
 have cS:=AnyZ.sorted_in Tryz.sortedA Fence.wide 5 trivial trivial trivial trivial rfl (by omega) (C9t _) (enters_of Tryz.func78 (by kernel_rfl) rfl) 79 #[.pointer (some ⟨Bm,0,none⟩)] trivial (enters_of Tryz.func79 (by kernel_rfl) rfl) _ _ hmax (by omega) w hseq
 change CallsIn _ _ Tryz.prog 60 _ _ _ at cS
 exact callsIn_wide.1 cS
end Go.Proofs.YtadjkmffodhmbaaGreat
namespace Go.Proofs.YtadjkmffodhmbaaGreat
open Go.Vm
set_option maxRecDepth 100000
set_option linter.unusedVariables false
set_option linter.constructorNameAsVariable false
def C0m:List (Nat×E5):=(60,A4E 79 9)::C0l
theorem A60:D2 Tryz.prog T C0m:=A6Y.cons (B2H _ _) (by rw [A7k];exact A9G B6 A6Z (by kernel_rfl) (by kernel_rfl) (enters_of Tryz.func60 (by kernel_rfl) rfl))
def K11:KC:=E9 Tryz.prog T C0m false FU 4
theorem D1g:K11.nat:=A8 A60 4
theorem D1h:W5 Tryz.prog T K11.dir:=B4 follows B6 A60 4
end Go.Proofs.YtadjkmffodhmbaaGreat
namespace Go.Proofs.YtadjkmffodhmbaaGreat
open Go.Vm
set_option maxRecDepth 100000
set_option linter.unusedVariables false
def A8l:Go.Code→Go.Code
 | .seq _ (.seq _ (.block _ (.seq _ r)))=>r
 | _=>.skip
def cσ (k xs:List V) (done:List (V×V×Bool)):Vm.St:=⟨[(3,.p 0 93 []),(4,.s k),(5,.v 22 (.l xs)),(18,.p 2 0 [])],((Tr.e.set 0 (.box 93 (.g 93 [.m 1]) false)).set 1 (.sm 9 22 65 done none)),[],3,some []⟩
def C9u (ex:Go.Exit) (σ:Vm.St):Option (Go.Exit×Option Ob×Option Ob×A×A×Nat×Option (List Nat)×List Nat):=some (ex,σ.ob.get 0,σ.ob.get 1,G8 σ.sl 3,G8 σ.sl 18,σ.nx,σ.mks,σ.rd)
theorem C0n (k xs:List V) (done:List (V×V×Bool)):E8 T K11 (fun _=>none) false FU (C2 Tryz.prog 27) (fun _=>none) _ (A8l (lp (A4 Tryz.prog 27) 0)) (cσ k xs done) C9u =
  (bif Nat.ble xs.length 10000 then some (.normal,some (.box 93 (.g 93 [.m 1]) false),some (.sm 9 22 65 (V1 (.s k) (.l xs) true done) none),.p 0 93 [],.p 2 0 [],4,some [],[]) else none):=by kernel_rfl
theorem B2q:N2 Tryz.prog T (C2 Tryz.prog 27) 3 (V8 (fun _=>none)) (A8l (lp (A4 Tryz.prog 27) 0)):=by
 rw [show V8 (fun _=>none)=fun _=>none from by funext b;rfl]
 exact A6 _
theorem C9v {c:L0} {e1:A9} {k xs:List V} {done:List (V×V×Bool)} {a:Act} {Q:Go.Exit→Act→World→Prop} (hos:A5 T c e1 (mbx 0 1 93 9 22 65 done)) (hU:∀ id,e1.U id↔id=0∨id=1∨id=2)
  (hl:xs.length≤10000) (h3:C3 T e1 (.p 0 93 []) (a.tmps.getD 3 undef)) (h4:C3 T e1 (.s k) (a.tmps.getD 4 undef)) (h5:C3 T e1 (.v 22 (.l xs)) (a.tmps.getD 5 undef)) (h18:C3 T e1 (.p 2 0 []) (a.tmps.getD 18 undef)) (hn:a.tmps.size=C2 Tryz.prog 27) (hd:a.defers=[])
  (hQ:∀ a' e',A5 T c e' (mbx 0 1 93 9 22 65 (V1 (.s k) (.l xs) true done))→e1.le e'→(∀ b,b < e1.w.heap.size→¬ (L0.here e1 (mbx 0 1 93 9 22 65 done) none).M b→e'.w.heap[b]? = e1.w.heap[b]?)→(∀ x b,e'.G x b→e1.w.heap.size≤b∨(L0.here e1 (mbx 0 1 93 9 22 65 done) none).M b) →
   a'.tmps.size=C2 Tryz.prog 27→a'.defers=[]→C3 T e' (.p 0 93 []) (a'.tmps.getD 3 undef)→C3 T e' (.p 2 0 []) (a'.tmps.getD 18 undef)→Q .normal a' e'.w) :
  (A8l (lp (A4 Tryz.prog 27) 0)).wp Tryz.prog Q a e1.w:=by
 have hb:=C0n k xs done
 rw [D2R hl,cond_true,A1x D1g B2] at hb
 cases hx:R3 T K11.dir (V8 (fun _=>none)) FU (C2 Tryz.prog 27) (fun _=>none) (A8l (lp (A4 Tryz.prog 27) 0)) (cσ k xs done) with
 | none=>rw [hx] at hb;cases hb
 | some p =>
 obtain ⟨ex,σ'⟩:=p
 rw [hx] at hb
 have hb:C9u ex σ'=_:=hb
 unfold C9u at hb
 simp only [D2K,Prod.mk.injEq] at hb
 obtain ⟨rfl,b0,b1,s3,s18,nx,mk,rd⟩:=hb
 obtain ⟨hle,hT⟩:=A2M (P:=Tryz.prog) follows B6 D1h (n0:=3) _ B2q _ _ _ hx
 have hsim:Sim T (L0.here e1 (mbx 0 1 93 9 22 65 done) none) e1 (fun _=>none) 3 (C2 Tryz.prog 27) (cσ k xs done) a e1.w:=by
  refine ⟨e1,rfl,?_,A9.le.refl e1,fun id A2=>.inl A2,fun t=>?_,⟨rfl,by rw [hd];exact .nil⟩,hn⟩
  ·refine (hos.here none).sub (fun id o ho=>?_)
   have ho:D1 ((Tr.e.set 0 (.box 93 (.g 93 [.m 1]) false)).set 1 (.sm 9 22 65 done none)) (fun _=>none) id=some o:=ho
   rw [A0Q,A0Q] at ho
   have he:D1 Tr.e (fun _=>none) id=none:=by unfold D1;rw [Tr.get_e]
   unfold mbx
   by_cases h1:id=1
   ·subst h1;rw [upd_same] at ho;rw [if_neg (by decide),if_pos rfl];exact ho
   ·rw [upd_ne _ _ h1] at ho
    by_cases h0:id=0
    ·subst h0;rw [upd_same] at ho;rw [if_pos rfl];exact ho
    ·rw [upd_ne _ _ h0,he] at ho;cases ho
  ·show C3 T e1 (G8 [(3,.p 0 93 []),(4,.s k),(5,.v 22 (.l xs)),(18,.p 2 0 [])] t) _
   rw [M4,M4,M4,M4]
   by_cases t3:t=3
   ·subst t3;rw [upd_same];exact h3
   ·rw [upd_ne _ _ t3]
    by_cases t4:t=4
    ·subst t4;rw [upd_same];exact h4
    ·rw [upd_ne _ _ t4]
     by_cases t5:t=5
     ·subst t5;rw [upd_same];exact h5
     ·rw [upd_ne _ _ t5]
      by_cases t6:t=18
      ·subst t6;rw [upd_same];exact h18
      ·rw [upd_ne _ _ t6];trivial
 have hw:=hT 0 (fun _=>none) (L0.here e1 (mbx 0 1 93 9 22 65 done) none) e1 a e1.w (Nat.le_refl _) ⟨fun _ _=>rfl,fun id h1 h2 hu=>?_⟩ (fun id o ho=>by cases ho) hsim
 ·refine (wpIn_wide (n:=0)).1 (wpIn_mono hw ?_)
  rintro e' a' w' ⟨rfl,e2,rfl,hst⟩
  have hos2:=hst.os.sub (of2:=mbx 0 1 93 9 22 65 (V1 (.s k) (.l xs) true done)) (fun id o ho=>by
   unfold mbx at ho
   split at ho
   ·rename_i A2;subst A2;unfold D1;rw [b0];exact ho
   ·split at ho
    ·rename_i A2;subst A2;unfold D1;rw [b1];exact ho
    ·cases ho)
  refine hQ a' e2 (hos.back_here hos2) hst.le (fun b hb hm=>hos2.block b hb hm) hos2.g.own hst.nt ?_ (by have:=hst.sl 3;rw [s3] at this;exact this) (by have:=hst.sl 18;rw [s18] at this;exact this)
  ·have:=hst.def_
   rw [mk] at this
   obtain ⟨_,hm⟩:=this
   generalize a'.defers=ds at hm ⊢
   cases hm;rfl
 ·rw [nx] at h2
  have:=(hU id).1 hu
  omega
end Go.Proofs.YtadjkmffodhmbaaGreat
namespace Go.Proofs.YtadjkmffodhmbaaGreat
open Go.RowKit Go.Vm
open Go.ChangeMaps (setBlock)
set_option linter.unusedVariables false
theorem mbT:A9r T 93 91:=⟨by kernel_rfl,by kernel_rfl,by kernel_rfl⟩
theorem C4T {cd:Code} (hcd:cd=A8l (lp (A4 Tryz.prog 27) 0)) {a:Act} {Q:Go.Exit→Act→World→Prop} {w:World} (h:(A8l (lp (A4 Tryz.prog 27) 0)).wp Tryz.prog Q a w):cd.wp Tryz.prog Q a w:=hcd ▸ h
/-- What stands at a round's beginning. -/
structure B2r (w:World) (S:Nat→Nat→Prop) (bm clock:Nat) (ms:Array MapEntry) (es':List (V×V×Bool)) (a:Act) (wr:World) (seen:Array Nat) (done:List (V×V×Bool)) (G1 S1:Nat→Nat→Prop):Prop where
 os:A5 T (L0.bare w S) (A9.mbi wr S1 G1 (w.heap.size+1) w.heap.size (w.heap.size+2) 93) (mbx 0 1 93 9 22 65 done)
 le:(A9.bare w S).le (A9.mbi wr S1 G1 (w.heap.size+1) w.heap.size (w.heap.size+2) 93)
 it:wr.heap[w.heap.size+2]? = some (.mapIter (some bm) clock seen clock)
 nG:∀ x,¬ G1 x (w.heap.size+2)
 dn:B6g es' ms.toList seen.toList done
 nt:a.tmps.size=C2 Tryz.prog 27
 df:a.defers=[]
 t3:a.tmps.getD 3 undef=.pointer (some ⟨w.heap.size+1,0,none⟩)
 t18:a.tmps.getD 18 undef=.pointer (some ⟨w.heap.size+2,0,none⟩)
theorem C6l {w:World} {S:Nat→Nat→Prop} (hS:∀ b i,S b i→b < w.heap.size) (bm clock:Nat):∃ G1 S1,(∀ x b,¬ G1 x b) ∧
  A5 T (L0.bare w S) (A9.mbi (((w.alloc (Obj.map #[] 0)).alloc (Obj.cells #[Value.map (some w.heap.size)] 93)).alloc (Obj.mapIter (some bm) clock #[] clock)) S1 G1 (w.heap.size+1) w.heap.size (w.heap.size+2) 93) (mbx 0 1 93 9 22 65 []) ∧
  (A9.bare w S).le (A9.mbi (((w.alloc (Obj.map #[] 0)).alloc (Obj.cells #[Value.map (some w.heap.size)] 93)).alloc (Obj.mapIter (some bm) clock #[] clock)) S1 G1 (w.heap.size+1) w.heap.size (w.heap.size+2) 93):=by
 have h0:=A5.bare (T:=T) hS
 have hu1:¬ (A9.bare w S).U 1:=fun q=>q
 have h1:=h0.newM (id:=1) (g:=.map #[] 0) (o:=.sm 9 22 65 [] none) hu1 ⟨.inl rfl,rfl,by kernel_rfl,by kernel_rfl,by decide +kernel,w.heap.size,#[],0,rfl,N7 _ _,⟨List.nodup_nil,A88⟩,[],[],List.Perm.refl _,.nil⟩
 have l1:=h0.le_newM hu1 (.map #[] 0)
 have hu0:¬ ((A9.bare w S).newM 1 (.map #[] 0)).U 0:=by rintro (q | q);cases q;exact q
 have hra:RA T ((A9.bare w S).newM 1 (.map #[] 0)) [.g 93 [.m 1]] [Value.map (some w.heap.size)]:=by
  have:=RA.g (e:=(A9.bare w S).newM 1 (.map #[] 0)) (ds:=[.map (some w.heap.size)]) (l:=[.m 1]) mbT.ch (by simp [Y6,D3,mbT.sc]) (by rw [mbT.sz];rfl) (RA.r ⟨w.heap.size,.inl rfl,rfl,rfl,rfl⟩ rfl .nil) .nil
  rwa [List.append_nil] at this
 have ok0:=B19 (id:=0) (t:=93) (cs:=#[Value.map (some w.heap.size)]) h1 hu0 hra (by simp [D3])
 have h2:=h1.new hu0 ok0
 have l2:=h1.le_new hu0 0 93 0 #[Value.map (some w.heap.size)] 93 (0,0)
 obtain ⟨h3,l3⟩:=h2.alloc (Obj.mapIter (some bm) clock #[] clock)
 have h4:=h3.sub (of2:=mbx 0 1 93 9 22 65 []) (fun id o ho=>by
  unfold mbx at ho
  split at ho
  ·rename_i A2;subst A2;rw [Go.Vm.upd_same];exact ho
  ·rename_i hne
   split at ho
   ·rename_i A2;subst A2;rw [Go.Vm.upd_ne _ _ hne,Go.Vm.upd_same];exact ho
   ·cases ho)
 have hsz:(w.alloc (Obj.map #[] 0)).heap.size=w.heap.size+1:=C7 _ _
 have i0:((((A9.bare w S).newM 1 (.map #[] 0)).new 0 0 93 0 #[Value.map (some w.heap.size)] 93 (0,0))).ι 0=some (w.heap.size+1,0):=by
  rw [← hsz];rfl
 have i1:((((A9.bare w S).newM 1 (.map #[] 0)).new 0 0 93 0 #[Value.map (some w.heap.size)] 93 (0,0))).ι 1=some (w.heap.size,0):=by
  rfl
 have h5:=B0U (it:=w.heap.size+2) mbT (show (0:Nat)≠1 by decide) h4 i0 i1 (by
  show _ < (((w.alloc (Obj.map #[] 0)).alloc (Obj.cells #[Value.map (some w.heap.size)] 93)).alloc (Obj.mapIter (some bm) clock #[] clock)).heap.size
  rw [C7,C7,C7];omega)
 exact ⟨_,_,fun x b q=>q,h5,C1z ((l1.trans l2).trans l3)⟩
set_option maxRecDepth 1000000 in
theorem C9w (Bp bm clock:Nat) (ms:Array MapEntry) (w:World) (S:Nat→Nat→Prop) (es':List (V×V×Bool)) (hBp:Bp < w.heap.size) (hp:w.cell? ⟨Bp,0,none⟩=some (.map (some bm))) (hb:w.heap[bm]? = some (.map ms clock)) (hst:StB ms clock)
  (hS:∀ b i,S b i→b < w.heap.size) (hE:C5C T (A9.bare w S) 9 22 es' ms.toList) (hL:∀ q∈es',∃ k xs,q.1=.s k∧q.2.1=.l xs∧xs.length≤10000) (hnd:(es'.map (·.1)).Nodup) :
  Calls Tryz.prog 27 #[.pointer (some ⟨Bp,0,none⟩)] w (fun en w'=>∃ a seen done G1 S1,B2r w S bm clock ms es' a w' seen done G1 S1∧(leftOf ms seen).size=0∧en=.returned (.pointer (some ⟨w.heap.size+1,0,none⟩))):=by
 have hbm:bm < w.heap.size:=(Array.getElem?_eq_some_iff.1 hb).1
 have hg:(getObj bm).run Tryz.prog w=.ok (.map ms clock) w:=MapKept.run_getObj_map hb
 have hlen:(Builtin.len_ #[91] 3 #[Value.map (some bm)]).run Tryz.prog w=.ok (.int .i64 ms.size) w:=by
  simp [Builtin.len_,A3 Tryz.underlying91,goInt,hg]
 have hmk:∀ (n:Int) (w:World),(Instr.makeMap 91 (some (.int .i64 n))).run Tryz.prog w=.ok (.map (some w.heap.size)) (w.alloc (.map #[] 0)):=fun n w=>by
  simp [Instr.makeMap,A3 Tryz.underlying91,asInt,asIntOf]
 have hb2:((w.alloc (Obj.map #[] 0)).alloc (Obj.cells #[Value.map (some w.heap.size)] 93)).heap[bm]? = some (.map ms clock):=by
  rw [C8 _ _ (by rw [C7];omega),C8 _ _ hbm];exact hb
 have hrg:=run_range_map (P:=Tryz.prog) ((w.alloc (Obj.map #[] 0)).alloc (Obj.cells #[Value.map (some w.heap.size)] 93)) 91 _ _ bm ms clock Tryz.underlying91 hb2
 rw [show ((w.alloc (Obj.map #[] 0)).alloc (Obj.cells #[Value.map (some w.heap.size)] 93)).heap.size=w.heap.size+2 by rw [C7,C7]] at hrg
 go_enter Tryz.func27,Tryz.ntmps27
 go_wp2
 refine wp_loop (fun a wr=>∃ seen done G1 S1,B2r w S bm clock ms es' a wr seen done G1 S1) (fun _ wr=>(leftOf ms (wr.iterSeen (w.heap.size+2))).size) ?start ?round
 case start =>
  obtain ⟨G1,S1,g0,g1,g2⟩:=C6l (w:=w) hS bm clock
  refine ⟨#[],[],G1,S1,g1,g2,?_,fun x=>g0 x _,?_,rfl,rfl,rfl,rfl⟩
  ·rw [show w.heap.size+2=((w.alloc (Obj.map #[] 0)).alloc (Obj.cells #[Value.map (some w.heap.size)] 93)).heap.size by rw [C7,C7]]
   exact N7 _ _
  ·show List.Perm [] _
   rw [List.filter_eq_nil_iff.2 (fun p _=>by simp)]
   exact List.Perm.refl _
 case round =>
  rintro ⟨tmps,defers⟩ wr ⟨seen,done,G1,S1,hI⟩
  have hnt:tmps.size=32:=hI.nt
  obtain ⟨u0,u1,u2,u3,u4,u5,u6,u7,u8,u9,u10,u11,u12,u13,u14,u15,u16,u17,u18,u19,u20,u21,u22,u23,u24,u25,u26,u27,u28,u29,u30,u31,rfl⟩:=D1A hnt
  have hdf:defers=[]:=hI.df
  have h3:u3=.pointer (some ⟨w.heap.size+1,0,none⟩):=hI.t3
  have h18:u18=.pointer (some ⟨w.heap.size+2,0,none⟩):=hI.t18
  subst hdf
  subst h3
  subst h18
  have hit:=hI.it
  have hbl:wr.heap[bm]? = w.heap[bm]? := hI.os.block bm hbm (fun q=>q)
  have hb1:=hbl.trans hb
  have hwr:w.heap.size+2 < wr.heap.size:=(Array.getElem?_eq_some_iff.1 hit).1
  rcases run_next_at (P:=Tryz.prog) wr 0 (w.heap.size+2) bm clock clock seen ms clock hit hb1 hst.1 (Nat.le_refl _) with ⟨h0,hrun⟩ | ⟨e,he,w1,hw1,hrun⟩
  ·have hnx:∀ ty,(Instr.next (.pointer (some ⟨w.heap.size+2,0,none⟩)) false ty).run Tryz.prog wr=_:=fun _=>hrun
   go_wp2
   go_ret
   exact ⟨_,seen,done,G1,S1,hI,h0,rfl⟩
  ·have hnx:∀ ty,(Instr.next (.pointer (some ⟨w.heap.size+2,0,none⟩)) false ty).run Tryz.prog wr=_:=fun _=>hrun
   generalize hw2:setBlock w1 (w.heap.size+2) (.mapIter (some bm) clock (seen.push e.born) clock)=w2 at hnx
   have hw1h:w1.heap=wr.heap:=by rcases hw1 with rfl | rfl<;>rfl
   have hsz2:w2.heap.size=wr.heap.size:=by rw [← hw2,← hw1h];simp [setBlock]
   have hit2:w2.heap[w.heap.size+2]? = some (.mapIter (some bm) clock (seen.push e.born) clock):=by
    rw [← hw2];simp [setBlock,hw1h,hwr]
   have hne2:∀ k,k≠w.heap.size+2→w2.heap[k]? = wr.heap[k]? := fun k hk=>by rw [← hw2,← hw1h];simp [setBlock,Ne.symm hk]
   have hb2:w2.heap[bm]? = some (.map ms clock):=(hne2 bm (by omega)).trans hb1
   have hen:=run_entry_at (P:=Tryz.prog) w2 (w.heap.size+2) bm clock seen ms clock e hit2 hb2 (mem_left he).1 hst.2
   -- the state told for the world behind 'next'
   have hno:∀ id q,(mbx 0 1 93 9 22 65 done id).isSome→(A9.mbi wr S1 G1 (w.heap.size+1) w.heap.size (w.heap.size+2) 93).ι id≠some (w.heap.size+2,q):=by
    intro id q hi hι
    by_cases h0:id=0
    ·subst h0
     have:some (w.heap.size+1,0)=some (w.heap.size+2,q):=hι
     injection this with this;injection this with this _;omega
    ·by_cases h1:id=1
     ·subst h1
      have:some (w.heap.size,0)=some (w.heap.size+2,q):=hι
      injection this with this;injection this with this _;omega
     ·unfold mbx at hi
      rw [if_neg h0,if_neg h1] at hi
      cases hi
   have hos1:A5 T (L0.bare w S) (A9.mbi w1 S1 G1 (w.heap.size+1) w.heap.size (w.heap.size+2) 93) (mbx 0 1 93 9 22 65 done)∧(A9.bare w S).le (A9.mbi w1 S1 G1 (w.heap.size+1) w.heap.size (w.heap.size+2) 93):=by
    rcases hw1 with rfl | rfl
    ·exact ⟨hI.os,hI.le⟩
    ·obtain ⟨q1,q2⟩:=hI.os.same_heap (w':=wr.drew) rfl rfl rfl rfl
     exact ⟨q1,hI.le.trans q2⟩
   obtain ⟨hos2,hle2⟩:=hos1.1.aside (b:=w.heap.size+2) (g:=.mapIter (some bm) clock seen clock) (g':=.mapIter (some bm) clock (seen.push e.born) clock) (.inl (by show w.heap.size≤_;omega)) hno hI.nG (by show w1.heap[_]? = _;rw [hw1h];exact hit) (fun _ _ _ q=>by cases q) (fun _ _ _ q=>by cases q) (w':=w2) (by rw [← hw2];rfl)
   have hos2:A5 T (L0.bare w S) (A9.mbi w2 S1 G1 (w.heap.size+1) w.heap.size (w.heap.size+2) 93) (mbx 0 1 93 9 22 65 done):=hos2
   have hleb:(A9.bare w S).le (A9.mbi w2 S1 G1 (w.heap.size+1) w.heap.size (w.heap.size+2) 93):=hos1.2.trans hle2
   -- the entry
   obtain ⟨i,hi⟩:=List.mem_iff_getElem?.1 (mem_left he).1
   have hil:i < es'.length:=by rw [hE.1];exact (List.getElem?_eq_some_iff.1 hi).1
   obtain ⟨⟨k',x',q'⟩,hie⟩:∃ p,es'[i]? = some p:=⟨_,D2U hil⟩
   obtain ⟨hr1,hr2⟩:=hE.2 i k' x' q' e hie hi
   obtain ⟨k,xs,hk,hx,hxl⟩:=hL _ (List.mem_of_getElem? hie)
   simp only at hk hx
   subst hk
   subst hx
   go_wp2
   refine C4T (by kernel_rfl) ?_
   refine C9v (e1:=A9.mbi w2 S1 G1 (w.heap.size+1) w.heap.size (w.heap.size+2) 93) (k:=k) (xs:=xs) hos2 A33 hxl D0c ?_ ?_ D0d rfl rfl ?_
   ·have h1:C3 T (A9.mbi w2 S1 G1 (w.heap.size+1) w.heap.size (w.heap.size+2) 93) (.v 9 (.s k)) e.key:=B3G (hr1.mono hleb) (M1 _ _)
    obtain ⟨te,hte,_⟩:=B1 (T:=T) (show D4 T 9=some .str by kernel_rfl)
    have h2:=A0h hte h1 (M1 _ _)
    rw [show norm T (.v 9 (.s k))=.s k from by kernel_rfl] at h2
    exact h2
   ·have hone:Go.Vm.one e.val=true:=hr2.one _ (by simp)
    exact ⟨by show RV T _ [22] [.l xs] e.val.cells.toList;rw [J3 hone];exact hr2.mono hleb,N5 (show D4 T 22=some (.slice 65) by kernel_rfl) rfl hone⟩
   ·intro a' e3 p1 p2 p3 p4 p5 p6 p7 p8
    have i0:e3.ι 0=some (w.heap.size+1,0):=(p2.obj 0 (A33 0 |>.2 (.inl rfl)) (p2.box 0 (A33 0 |>.2 (.inl rfl)) rfl)).1
    have i1:e3.ι 1=some (w.heap.size,0):=(p2.obj 1 (A33 1 |>.2 (.inr (.inl rfl))) (p2.box 1 (A33 1 |>.2 (.inr (.inl rfl))) rfl)).1
    have i2:e3.ι 2=some (w.heap.size+2,0):=(p2.obj 2 (A33 2 |>.2 (.inr (.inr rfl))) (p2.box 2 (A33 2 |>.2 (.inr (.inr rfl))) rfl)).1
    have hlt2:w.heap.size+2 < w2.heap.size:=by omega
    have hgr:w2.heap.size≤e3.w.heap.size:=p2.grow
    have hnM:¬ (L0.here (A9.mbi w2 S1 G1 (w.heap.size+1) w.heap.size (w.heap.size+2) 93) (mbx 0 1 93 9 22 65 done) none).M (w.heap.size+2):=by
     rintro (⟨id,q,h1,h2⟩ | ⟨x,h1⟩)
     ·exact hno id q h1 h2
     ·exact hI.nG x h1
    have hit3:e3.w.heap[w.heap.size+2]? = some (.mapIter (some bm) clock (seen.push e.born) clock):=(p3 _ hlt2 hnM).trans hit2
    have hnb:e.born ∉ seen.toList:=by
     have:=(mem_left he).2
     simpa using this
    change (∃ seen done G1 S1,B2r w S bm clock ms es' a' e3.w seen done G1 S1)∧(leftOf ms (e3.w.iterSeen (w.heap.size+2))).size < (leftOf ms (wr.iterSeen (w.heap.size+2))).size
    refine ⟨⟨seen.push e.born,V1 (.s k) (.l xs) true done,e3.G,e3.S,B0U mbT (by decide) p1 i0 i1 (by omega),C1z (hleb.trans p2),hit3,fun x hG=>?_,?_,p5,p6,?_,?_⟩,?_⟩
    ·rcases p4 x _ hG with q | q
     ·have q:w2.heap.size≤w.heap.size+2:=q
      omega
     ·exact hnM q
    ·rw [Array.toList_push]
     exact B6h hI.dn hE.1 hst.2 hnd hie hi hnb
    ·obtain ⟨b,off,_,_,q3,q4,q5⟩:=M5 p7
     rw [i0] at q3;cases q3
     rw [show e3.ty 0=93 from p2.ty 0 (A33 0 |>.2 (.inl rfl))] at q4
     cases q4
     exact q5
    ·obtain ⟨b,off,_,_,q3,q4,q5⟩:=M5 p8
     rw [i2] at q3;cases q3
     rw [show e3.ty 2=0 from p2.ty 2 (A33 2 |>.2 (.inr (.inr rfl)))] at q4
     cases q4
     exact q5
    ·have e1:e3.w.iterSeen (w.heap.size+2)=seen.push e.born:=by unfold World.iterSeen;rw [hit3]
     have e2:wr.iterSeen (w.heap.size+2)=seen:=by unfold World.iterSeen;rw [hit]
     rw [e1,e2]
     exact left_shrinks ms seen e he
theorem D1i:C6w Tryz.prog T 27 93 9 22 65:=by
 intro Bp bm clock ms w S es' h1 h2 h3 h4 h5 h6 h7 h8
 refine (C9w Bp bm clock ms w S es' h1 h2 h3 h4 h5 h6 h7 h8).mono ?_
 rintro en w' ⟨a,seen,done,G1,S1,hI,h0,hen⟩
 refine ⟨_,done,rfl,hI.os,hI.le,C1A hI.dn h6.1 (fun m hm=>?_),rfl,rfl,hen⟩
 have:=all_seen ms seen h0 m hm
 simpa using this
theorem B2s:∀ args w,(callFunc 27 args).run Tryz.prog w=.ok (.enter 27 args) w:=Go.Proofs.enters_of Tryz.func27 (by kernel_rfl) rfl
theorem C9x:N4 Tryz.prog T 27 (A4F 93 9 22 65).dir:=C1B D1i mbT (by kernel_rfl) (by kernel_rfl) B2s
end Go.Proofs.YtadjkmffodhmbaaGreat
namespace Go.Proofs.YtadjkmffodhmbaaGreat
open Go.Vm
set_option maxRecDepth 100000
set_option linter.unusedVariables false
set_option linter.constructorNameAsVariable false
def C4U:PAr→Vm.St
 | .m l xs ks nk n i=>⟨[(0,.v 22 l),(3,.o 0 1),(8,.o 1 1),(9,.i .i64 n),(10,.i .i64 i)],(.n (some (.row 65 1 xs false false)) (.n (some (.row 9 1 ks nk false)) .e .e) .e),[],2,some []⟩
def D1j (R:Type) (kx:Exit→Vm.St→Option R):QAr→Option R
 | .o l xs ks nk n i=>kx (.exit 0) ⟨[(0,.v 22 l),(3,.o 0 1),(8,.o 1 1),(9,.i .i64 n),(10,.i .i64 i)],(.n (some (.row 65 1 xs false false)) (.n (some (.row 9 1 ks nk false)) .e .e) .e),[],1024,some []⟩
def C0o:Vm.St→Option PAr
 | ⟨[(0,.v 22 l),(3,.o 0 1),(8,.o 1 1),(9,.i .i64 n),(10,.i .i64 i)],(.n (some (.row 65 1 xs false false)) (.n (some (.row 9 1 ks nk false)) .e .e) .e),[],2,some []⟩=>some (.m l xs ks nk n i)
 | _=>none
theorem C0p (τ:Vm.St) (x:PAr) (h:C0o τ=some x):τ=C4U x:=by
 unfold C0o at h
 split at h<;>first | (cases h;rfl) | cases h
theorem C9y (R:Type) (of:Nat→Option Ob) (x:PAr) (K:Vm.St→Option R) (kx:Exit→Vm.St→Option R):E8 T K11 (fun _=>none) false FU (C2 Tryz.prog 17) of R (lp (A4 Tryz.prog 17) 0) (C4U x) (H4 0 [999999,0,3,8,9,10] 1024 K kx)=BAr R x (fun x'=>K (C4U x')) (D1j R kx):=by
 cases x with
 | m _ _ _ _ _ _=>kernel_rfl
def HAr:LS:=H9 T K11 (fun _=>none) (C2 Tryz.prog 17) (lp (A4 Tryz.prog 17) 0) 0 [999999,0,3,8,9,10] 1024 C0o BAr D1j
theorem C0q:F0 Tryz.prog T (C2 Tryz.prog 17) 0 (lp (A4 Tryz.prog 17) 0) HAr :=
 C5 follows B6 D1g D1h B2 (A6 _) C4U C0p C9y
def C9z:Nat→LC:=atN 0 [(3,HAr)]
theorem C4V:H8 Tryz.prog T 17 C9z:=E7 0 (List.forall_mem_cons.2 ⟨C0q.1,fun _ h=>by cases h⟩) 1 (by kernel_rfl) ⟨trivial,loI (s0:=HAr) (by kernel_rfl) C0q⟩
theorem C9A (l:V):C4 Tryz.prog T K11 C9z false FU 17 (List Rs) (G2 T [22] [l]) (fun _=>none) 0 (fun out=>H2 T true [.r 65] out)=alG 65 noE l:=by kernel_rfl
def C0r:List (Nat×E5):=(17,F6 T true [22] (gF alg (alr 65)))::C0m
theorem A61:D2 Tryz.prog T C0r:=by
 refine B8 (sh:=true) (rk:=[.r 65]) (d:=4) (fu:=FU) (Lo:=C9z) (ds:=[.slice A2X]) follows B6 A60 (by kernel_rfl) C4V 40 (by kernel_rfl) (fun xs hd hg=>?_)
 obtain ⟨a,rfl,ha⟩:=S4 hd
 exact (C9A a).trans (C5z hg)
def K12:KC:=E9 Tryz.prog T C0r false FU 4
theorem B0L:K12.nat:=A8 A61 4
theorem C4W:W5 Tryz.prog T K12.dir:=B4 follows B6 A61 4
def C4X:PNn→Vm.St
 | .m l es n i=>⟨[(3,.p 0 93 []),(9,.v 22 l),(10,.i .i64 n),(11,.i .i64 i)],(.n (some (.box 93 (.g 93 [.m 1]) false)) (.n (some (.sm 9 22 65 es none)) .e .e) .e),[],2,some []⟩
def D1k (R:Type) (kx:Exit→Vm.St→Option R):QNn→Option R
 | .o l es n i=>kx (.exit 0) ⟨[(3,.p 0 93 []),(9,.v 22 l),(10,.i .i64 n),(11,.i .i64 i)],(.n (some (.box 93 (.g 93 [.m 1]) false)) (.n (some (.sm 9 22 65 es none)) .e .e) .e),[],64,some []⟩
def C0s:Vm.St→Option PNn
 | ⟨[(3,.p 0 93 []),(9,.v 22 l),(10,.i .i64 n),(11,.i .i64 i)],(.n (some (.box 93 (.g 93 [.m 1]) false)) (.n (some (.sm 9 22 65 es none)) .e .e) .e),[],2,some []⟩=>some (.m l es n i)
 | _=>none
theorem C0t (τ:Vm.St) (x:PNn) (h:C0s τ=some x):τ=C4X x:=by
 unfold C0s at h
 split at h<;>first | (cases h;rfl) | cases h
theorem C9B (R:Type) (of:Nat→Option Ob) (x:PNn) (K:Vm.St→Option R) (kx:Exit→Vm.St→Option R):E8 T K12 (fun _=>none) false FU (C2 Tryz.prog 10) of R (lp (A4 Tryz.prog 10) 0) (C4X x) (H4 0 [999999,3,9,10,11] 64 K kx)=BNn R x (fun x'=>K (C4X x')) (D1k R kx):=by
 cases x with
 | m _ _ _ _=>kernel_rfl
def HNn:LS:=H9 T K12 (fun _=>none) (C2 Tryz.prog 10) (lp (A4 Tryz.prog 10) 0) 0 [999999,3,9,10,11] 64 C0s BNn D1k
theorem C0u:F0 Tryz.prog T (C2 Tryz.prog 10) 0 (lp (A4 Tryz.prog 10) 0) HNn :=
 C5 follows B6 B0L C4W B2 (A6 _) C4X C0t C9B
def D1l:Nat→LC:=atN 0 [(3,HNn)]
theorem A5m:H8 Tryz.prog T 10 D1l:=E7 0 (List.forall_mem_cons.2 ⟨C0u.1,fun _ h=>by cases h⟩) 1 (by kernel_rfl) ⟨trivial,loI (s0:=HNn) (by kernel_rfl) C0u⟩
def C4Y:PAw→Vm.St
 | .m es xs nl ks nk n i=>⟨[(0,.p 0 93 []),(3,.o 2 1),(7,.o 3 1),(8,.i .i64 n),(9,.i .i64 i)],(.n (some (.box 93 (.g 93 [.m 1]) false)) (.n (some (.sm 9 22 65 es none)) (.n (some (.row 9 1 ks nk false)) .e .e) .e) (.n (some (.row 65 1 xs nl false)) .e .e)),[1,0],4,some []⟩
def D1m (R:Type) (kx:Exit→Vm.St→Option R):QAw→Option R
 | .o es xs nl ks nk n i=>kx (.exit 0) ⟨[(0,.p 0 93 []),(3,.o 2 1),(7,.o 3 1),(8,.i .i64 n),(9,.i .i64 i)],(.n (some (.box 93 (.g 93 [.m 1]) false)) (.n (some (.sm 9 22 65 es none)) (.n (some (.row 9 1 ks nk false)) .e .e) .e) (.n (some (.row 65 1 xs nl false)) .e .e)),[1,0],1024,some []⟩
def C0v:Vm.St→Option PAw
 | ⟨[(0,.p 0 93 []),(3,.o 2 1),(7,.o 3 1),(8,.i .i64 n),(9,.i .i64 i)],(.n (some (.box 93 (.g 93 [.m 1]) false)) (.n (some (.sm 9 22 65 es none)) (.n (some (.row 9 1 ks nk false)) .e .e) .e) (.n (some (.row 65 1 xs nl false)) .e .e)),[1,0],4,some []⟩=>some (.m es xs nl ks nk n i)
 | _=>none
theorem C0w (τ:Vm.St) (x:PAw) (h:C0v τ=some x):τ=C4Y x:=by
 unfold C0v at h
 split at h<;>first | (cases h;rfl) | cases h
theorem C9C (R:Type) (of:Nat→Option Ob) (x:PAw) (K:Vm.St→Option R) (kx:Exit→Vm.St→Option R):E8 T K12 (fun _=>none) false FU (C2 Tryz.prog 16) of R (lp (A4 Tryz.prog 16) 0) (C4Y x) (H4 2 [999999,0,3,7,8,9] 1024 K kx)=BAw R x (fun x'=>K (C4Y x')) (D1m R kx):=by
 cases x with
 | m _ _ _ _ _ _ _=>kernel_rfl
def HAw:LS:=H9 T K12 (fun _=>none) (C2 Tryz.prog 16) (lp (A4 Tryz.prog 16) 0) 2 [999999,0,3,7,8,9] 1024 C0v BAw D1m
theorem C0x:F0 Tryz.prog T (C2 Tryz.prog 16) 2 (lp (A4 Tryz.prog 16) 0) HAw :=
 C5 follows B6 B0L C4W B2 (A6 _) C4Y C0w C9C
def D1n:Nat→LC:=atN 2 [(3,HAw)]
theorem A5n:H8 Tryz.prog T 16 D1n:=E7 2 (List.forall_mem_cons.2 ⟨C0x.1,fun _ h=>by cases h⟩) 1 (by kernel_rfl) ⟨trivial,loI (s0:=HAw) (by kernel_rfl) C0x⟩
def C6m:List (Nat×E5):=(10,trS (A1k Tryz.prog T K12 D1l false FU 10))::C0r
theorem C0y:D2 Tryz.prog T C6m:=A61.cons (A40 (X0 B0L A5m.nat)) (A8r (X0 B0L A5m.nat) (A3j follows B6 B0L C4W A5m.nat A5m.ok).at_)
def C0z:List (Nat×E5):=(16,trS (A1k Tryz.prog T K12 D1n false FU 16))::C6m
theorem A62:D2 Tryz.prog T C0z:=C0y.cons (A40 (X0 B0L A5n.nat)) (A8r (X0 B0L A5n.nat) (A3j follows B6 B0L C4W A5n.nat A5n.ok).at_)
def K14:KC:=E9 Tryz.prog T C0z false FU 4
theorem D2q:K14.nat:=A8 A62 4
theorem D2r:W5 Tryz.prog T K14.dir:=B4 follows B6 A62 4
end Go.Proofs.YtadjkmffodhmbaaGreat
namespace Go.Proofs.YtadjkmffodhmbaaGreat
open Go.Vm
set_option maxRecDepth 100000
set_option linter.unusedVariables false
def C0A:List (Nat×Sym):=[(112,(F6 T false [172,37] (B7C (Fmx 172))).dir),(67,(F6 T false [37] (B7C (Fsm 34))).dir),(60,A4K 79 9)]
theorem C0B:C2y Tryz.prog T C0A:=⟨D2.see (D2.at A5k (by kernel_rfl)),D2.see (D2.at A5l (by kernel_rfl)),A9G B6 A6Z (by kernel_rfl) (by kernel_rfl) (enters_of Tryz.func60 (by kernel_rfl) rfl),trivial⟩
theorem B54:ob (C2z Tryz.prog T C0A 100000 60 7 (G2 T [] []) (fun _=>none) 0) (fun out=>H2 T true [.d 4] out)=some [.d 4 (.b true)]:=by kernel_rfl
def B2t:E5:=F6 T true [] (gF (fun _=>true) (fun _=>[.d 4 (.b true)]))
theorem B2u:B2t.nat:=A70 (B1j _ _)
theorem D1o:N4 Tryz.prog T 7 B2t.dir :=
 B3y (s:=B0J (C2z Tryz.prog T C0A 100000 60 7)) (B5S _) (by rw [B5T];exact C2A follows B6 C0B) (rk:=[.d 4]) (B1j _ _) rfl (fun xs rs htv hrs=>by
  have hl:=htv.len
  cases xs with
  | cons _ _=>cases hl
  | nil =>
   obtain ⟨_,rfl⟩:=C5Z hrs
   exact B54)
end Go.Proofs.YtadjkmffodhmbaaGreat
namespace Go.Proofs.YtadjkmffodhmbaaGreat
open Go.Vm
set_option maxRecDepth 100000
set_option linter.unusedVariables false
set_option linter.constructorNameAsVariable false
theorem C4Z (bs:List V):C4 Tryz.prog T K14 (fun _ _=>none) false FU 74 (List Rs) (G2 T [37] [.l bs]) (fun _=>none) 0 (fun out=>H2 T true [.d 5,.d 37,.d 3,.d 50] out)=D0e 5 37 3 50 bs:=by kernel_rfl
theorem C0C  : C4 Tryz.prog T K14 (fun _ _=>none) false FU 74 (List Rs) (G2 T [37] [.n]) (fun _=>none) 0 (fun out=>H2 T true [.d 5,.d 37,.d 3,.d 50] out)=some (nxR 5 37 3 50 none):=by kernel_rfl
def C0D:List (Nat×E5):=(74,F6 T true [37] (gF nxg (nxr 5 37 3 50)))::C0z
theorem A63:D2 Tryz.prog T C0D:=by
 refine B8 (sh:=true) (rk:=[.d 5,.d 37,.d 3,.d 50]) (d:=4) (fu:=FU) (Lo:=(fun _ _=>none)) (ds:=[.slice (.int .u8)]) follows B6 A62 (by kernel_rfl) E3 40 (by kernel_rfl) (fun xs hd hg=>?_)
 obtain ⟨a,rfl,ha⟩:=S4 hd
 have hl:a.els.length≤1000000:=D2N hg
 rcases ha with rfl | ⟨ys,rfl,hy⟩
 ·exact C0C
 ·obtain ⟨ns,rfl,hn⟩:=u8s hy
  rw [← C1C (x:=.l (ns.map nv)) rfl]
  exact (C4Z _).trans (C1D hn (by rw [← D2L (f:=nv)];exact hl))
def K15:KC:=E9 Tryz.prog T C0D false FU 4
theorem D1O:K15.nat:=A8 A63 4
theorem D1P:W5 Tryz.prog T K15.dir:=B4 follows B6 A63 4
def C40:PNx→Vm.St
 | .m bs c h n g ss m i=>⟨[(0,.v 37 (.l bs)),(6,.i .u8 c),(7,.i .i64 h),(8,.i .i64 n),(9,.i .i64 g),(47,.v 37 (.l ss)),(48,.i .i64 m),(49,.i .i64 i)],.e,[],0,some []⟩
def D1p (R:Type) (kx:Exit→Vm.St→Option R):QNx→Option R
 | .o bs c h n g ss m i=>kx (.exit 0) ⟨[(0,.v 37 (.l bs)),(6,.i .u8 c),(7,.i .i64 h),(8,.i .i64 n),(9,.i .i64 g),(47,.v 37 (.l ss)),(48,.i .i64 m),(49,.i .i64 i)],.e,[],64,some []⟩
def C0E:Vm.St→Option PNx
 | ⟨[(0,.v 37 (.l bs)),(6,.i .u8 c),(7,.i .i64 h),(8,.i .i64 n),(9,.i .i64 g),(47,.v 37 (.l ss)),(48,.i .i64 m),(49,.i .i64 i)],.e,[],0,some []⟩=>some (.m bs c h n g ss m i)
 | _=>none
theorem C0F (τ:Vm.St) (x:PNx) (h:C0E τ=some x):τ=C40 x:=by
 unfold C0E at h
 split at h<;>first | (cases h;rfl) | cases h
theorem C9D (R:Type) (of:Nat→Option Ob) (x:PNx) (K:Vm.St→Option R) (kx:Exit→Vm.St→Option R):E8 T K15 (fun _=>none) false FU (C2 Tryz.prog 52) of R (lp (A4 Tryz.prog 52) 0) (C40 x) (H4 0 [999999,0,6,7,8,9,47,48,49] 64 K kx)=BNx R x (fun x'=>K (C40 x')) (D1p R kx):=by
 cases x with
 | m _ _ _ _ _ _ _ _=>kernel_rfl
def HNx:LS:=H9 T K15 (fun _=>none) (C2 Tryz.prog 52) (lp (A4 Tryz.prog 52) 0) 0 [999999,0,6,7,8,9,47,48,49] 64 C0E BNx D1p
theorem C0G:F0 Tryz.prog T (C2 Tryz.prog 52) 0 (lp (A4 Tryz.prog 52) 0) HNx :=
 C5 follows B6 D1O D1P B2 (A6 _) C40 C0F C9D
def C41:Nat→LC:=atN 0 [(15,HNx)]
theorem C42:H8 Tryz.prog T 52 C41:=E7 0 (List.forall_mem_cons.2 ⟨C0G.1,fun _ h=>by cases h⟩) 1 (by kernel_rfl) ⟨trivial,loI (s0:=HNx) (by kernel_rfl) C0G⟩
theorem C43 (bs:List V):C4 Tryz.prog T K15 C41 false FU 52 (List Rs) (G2 T [37] [.l bs]) (fun _=>none) 0 (fun out=>H2 T true [.d 5,.d 37,.d 3,.d 3] out)=D0f 5 37 3 3 bs:=by kernel_rfl
theorem C0H  : C4 Tryz.prog T K15 C41 false FU 52 (List Rs) (G2 T [37] [.n]) (fun _=>none) 0 (fun out=>H2 T true [.d 5,.d 37,.d 3,.d 3] out)=some (nxR 5 37 3 3 none):=by kernel_rfl
def C0I:List (Nat×E5):=(52,F6 T true [37] (gF nxg (nxr 5 37 3 3)))::C0D
theorem A64:D2 Tryz.prog T C0I:=by
 refine B8 (sh:=true) (rk:=[.d 5,.d 37,.d 3,.d 3]) (d:=4) (fu:=FU) (Lo:=C41) (ds:=[.slice (.int .u8)]) follows B6 A63 (by kernel_rfl) C42 40 (by kernel_rfl) (fun xs hd hg=>?_)
 obtain ⟨a,rfl,ha⟩:=S4 hd
 have hl:a.els.length≤1000000:=D2N hg
 rcases ha with rfl | ⟨ys,rfl,hy⟩
 ·exact C0H
 ·obtain ⟨ns,rfl,hn⟩:=u8s hy
  rw [← C1C (x:=.l (ns.map nv)) rfl]
  exact (C43 _).trans (C1E hn (by rw [← D2L (f:=nv)];exact hl))
def K16:KC:=E9 Tryz.prog T C0I false FU 4
theorem D2s:K16.nat:=A8 A64 4
theorem D2t:W5 Tryz.prog T K16.dir:=B4 follows B6 A64 4
theorem C9E (bs:List V):C4 Tryz.prog T K16 (fun _ _=>none) false FU 86 (List Rs) (G2 T [37] [.l bs]) (fun _=>none) 0 (fun out=>H2 T true [.r 5] out)=dpG 5 bs:=by kernel_rfl
theorem C44  : C4 Tryz.prog T K16 (fun _ _=>none) false FU 86 (List Rs) (G2 T [37] [.n]) (fun _=>none) 0 (fun out=>H2 T true [.r 5] out)=some [.r 5 ((T1 []).map nv) false]:=by kernel_rfl
def C0J:List (Nat×E5):=(86,F6 T true [37] (gF psg (psr 5)))::C0I
theorem A65:D2 Tryz.prog T C0J:=by
 refine B8 (sh:=true) (rk:=[.r 5]) (d:=4) (fu:=FU) (Lo:=(fun _ _=>none)) (ds:=[.slice (.int .u8)]) follows B6 A64 (by kernel_rfl) E3 40 (by kernel_rfl) (fun xs hd hg=>?_)
 obtain ⟨a,rfl,ha⟩:=S4 hd
 have hl:a.els.length≤60000:=D2N hg
 rcases ha with rfl | ⟨ys,rfl,hy⟩
 ·exact C44
 ·obtain ⟨ns,rfl,hn⟩:=u8s hy
  refine (C9E _).trans ((C3e (by rw [← D2L (f:=nv)];exact hl)).trans ?_)
  rw [← A0d (x:=.l (ns.map nv)) rfl];rfl
def K17:KC:=E9 Tryz.prog T C0J false FU 4
theorem D1Q:K17.nat:=A8 A65 4
theorem D1R:W5 Tryz.prog T K17.dir:=B4 follows B6 A65 4
def C45:PPs→Vm.St
 | .m xs l n i=>⟨[(5,.o 0 1),(11,.v 119 l),(12,.i .i64 n),(13,.i .i64 i)],(.n (some (.row 5 1 xs false false)) .e .e),[],1,some []⟩
def D1q (R:Type) (kx:Exit→Vm.St→Option R):QPs→Option R
 | .o xs l n i=>kx (.exit 0) ⟨[(5,.o 0 1),(11,.v 119 l),(12,.i .i64 n),(13,.i .i64 i)],(.n (some (.row 5 1 xs false false)) .e .e),[],64,some []⟩
def C0K:Vm.St→Option PPs
 | ⟨[(5,.o 0 1),(11,.v 119 l),(12,.i .i64 n),(13,.i .i64 i)],(.n (some (.row 5 1 xs false false)) .e .e),[],1,some []⟩=>some (.m xs l n i)
 | _=>none
theorem C0L (τ:Vm.St) (x:PPs) (h:C0K τ=some x):τ=C45 x:=by
 unfold C0K at h
 split at h<;>first | (cases h;rfl) | cases h
theorem C9F (R:Type) (of:Nat→Option Ob) (x:PPs) (K:Vm.St→Option R) (kx:Exit→Vm.St→Option R):E8 T K17 (fun _=>none) false FU (C2 Tryz.prog 75) of R (lp (A4 Tryz.prog 75) 0) (C45 x) (H4 0 [999999,5,11,12,13] 64 K kx)=BPs R x (fun x'=>K (C45 x')) (D1q R kx):=by
 cases x with
 | m _ _ _ _=>kernel_rfl
def HPs:LS:=H9 T K17 (fun _=>none) (C2 Tryz.prog 75) (lp (A4 Tryz.prog 75) 0) 0 [999999,5,11,12,13] 64 C0K BPs D1q
theorem C0M:F0 Tryz.prog T (C2 Tryz.prog 75) 0 (lp (A4 Tryz.prog 75) 0) HPs :=
 C5 follows B6 D1Q D1R B2 (A6 _) C45 C0L C9F
def C9G:Nat→LC:=atN 0 [(3,HPs)]
theorem C46:H8 Tryz.prog T 75 C9G:=E7 0 (List.forall_mem_cons.2 ⟨C0M.1,fun _ h=>by cases h⟩) 1 (by kernel_rfl) ⟨trivial,loI (s0:=HPs) (by kernel_rfl) C0M⟩
theorem C9H (bs:List V) (l:V):C4 Tryz.prog T K17 C9G false FU 75 (List Rs) (G2 T [37,119] [.l bs,l]) (fun _=>none) 0 (fun out=>H2 T true [.r 5] out)=ppG 5 bs l:=by kernel_rfl
def C0N:List (Nat×E5):=(75,F6 T true [37,119] (gF ppg (ppr 5)))::C0J
theorem A66:D2 Tryz.prog T C0N:=by
 refine B8 (sh:=true) (rk:=[.r 5]) (d:=4) (fu:=FU) (Lo:=C9G) (ds:=[.slice (.int .u8),.slice (.slice (.int .u8))]) follows B6 A65 (by kernel_rfl) C46 40 (by kernel_rfl) (fun xs hd hg=>?_)
 obtain ⟨a,b,rfl,ha,hb⟩:=A14 hd
 rcases ha with rfl | ⟨ys,rfl,hy⟩
 ·exact (D0O hg).elim
 ·exact (C9H ys b).trans (C3f hb hg)
def K18:KC:=E9 Tryz.prog T C0N false FU 4
theorem D1S:K18.nat:=A8 A66 4
theorem D1T:W5 Tryz.prog T K18.dir:=B4 follows B6 A66 4
def C47:PEq→Vm.St
 | .m a b c n i=>⟨[(0,.v 37 a),(1,.v 37 b),(4,.b false),(11,.v 37 c),(12,.i .i64 n),(13,.i .i64 i)],.e,[],0,some []⟩
def D1r (R:Type) (kx:Exit→Vm.St→Option R):QEq→Option R
 | .o a b c n i=>kx (.exit 0) ⟨[(0,.v 37 a),(1,.v 37 b),(4,.b false),(11,.v 37 c),(12,.i .i64 n),(13,.i .i64 i)],.e,[],64,some []⟩
 | .r a b c n i=>kx (.ret) ⟨[(0,.v 37 a),(1,.v 37 b),(4,.b false),(11,.v 37 c),(12,.i .i64 n),(13,.i .i64 i)],.e,[],64,some []⟩
def C0O:Vm.St→Option PEq
 | ⟨[(0,.v 37 a),(1,.v 37 b),(4,.b false),(11,.v 37 c),(12,.i .i64 n),(13,.i .i64 i)],.e,[],0,some []⟩=>some (.m a b c n i)
 | _=>none
theorem C0P (τ:Vm.St) (x:PEq) (h:C0O τ=some x):τ=C47 x:=by
 unfold C0O at h
 split at h<;>first | (cases h;rfl) | cases h
theorem C9I (R:Type) (of:Nat→Option Ob) (x:PEq) (K:Vm.St→Option R) (kx:Exit→Vm.St→Option R):E8 T K18 (fun _=>none) false FU (C2 Tryz.prog 59) of R (lp (A4 Tryz.prog 59) 0) (C47 x) (H4 0 [999999,0,1,4,11,12,13] 64 K kx)=BEq R x (fun x'=>K (C47 x')) (D1r R kx):=by
 cases x with
 | m _ _ _ _ _=>kernel_rfl
def HEq:LS:=H9 T K18 (fun _=>none) (C2 Tryz.prog 59) (lp (A4 Tryz.prog 59) 0) 0 [999999,0,1,4,11,12,13] 64 C0O BEq D1r
theorem C0Q:F0 Tryz.prog T (C2 Tryz.prog 59) 0 (lp (A4 Tryz.prog 59) 0) HEq :=
 C5 follows B6 D1S D1T B2 (A6 _) C47 C0P C9I
def C9J:Nat→LC:=atN 0 [(4,HEq)]
theorem C48:H8 Tryz.prog T 59 C9J:=E7 0 (List.forall_mem_cons.2 ⟨C0Q.1,fun _ h=>by cases h⟩) 1 (by kernel_rfl) ⟨trivial,loI (s0:=HEq) (by kernel_rfl) C0Q⟩
theorem C9K (a b:V):C4 Tryz.prog T K18 C9J false FU 59 (List Rs) (G2 T [37,37] [a,b]) (fun _=>none) 0 (fun out=>H2 T true [.d 4] out)=eqG 4 a b:=by kernel_rfl
def C0R:List (Nat×E5):=(59,F6 T true [37,37] (gF eqg (eqr 4)))::C0N
theorem A67:D2 Tryz.prog T C0R:=by
 refine B8 (sh:=true) (rk:=[.d 4]) (d:=4) (fu:=FU) (Lo:=C9J) (ds:=[.slice (.int .u8),.slice (.int .u8)]) follows B6 A66 (by kernel_rfl) C48 40 (by kernel_rfl) (fun xs hd hg=>?_)
 obtain ⟨a,b,rfl,ha,hb⟩:=A14 hd
 exact (C9K a b).trans (C3h ha hb hg)
def K19:KC:=E9 Tryz.prog T C0R false FU 4
theorem D1U:K19.nat:=A8 A67 4
theorem D1V:W5 Tryz.prog T K19.dir:=B4 follows B6 A67 4
end Go.Proofs.YtadjkmffodhmbaaGreat
namespace Go.Proofs.YtadjkmffodhmbaaGreat
open Go.Vm
set_option maxRecDepth 100000
set_option linter.unusedVariables false
set_option linter.constructorNameAsVariable false
def C49:PPd→Vm.St
 | .m bs xs nl n i=>⟨[(0,.v 37 (.l bs)),(4,.o 0 1),(5,.o 1 1),(6,.b false),(7,.o 2 1),(12,.i .i64 n),(13,.i .i64 i)],(.n (some (.row 37 1 [] true false)) (.n (some (.row 5 1 [] true false)) .e .e) (.n (some (.row 37 1 xs nl false)) .e .e)),[],3,some []⟩
def D1s (R:Type) (kx:Exit→Vm.St→Option R):QPd→Option R
 | .o bs xs nl n i=>kx (.exit 0) ⟨[(0,.v 37 (.l bs)),(4,.o 0 1),(5,.o 1 1),(6,.b false),(7,.o 2 1),(12,.i .i64 n),(13,.i .i64 i)],(.n (some (.row 37 1 [] true false)) (.n (some (.row 5 1 [] true false)) .e .e) (.n (some (.row 37 1 xs nl false)) .e .e)),[],64,some []⟩
 | .r bs xs nl n i=>kx (.ret) ⟨[(0,.v 37 (.l bs)),(4,.o 0 1),(5,.o 1 1),(6,.b false),(7,.o 2 1),(12,.i .i64 n),(13,.i .i64 i)],(.n (some (.row 37 1 [] true false)) (.n (some (.row 5 1 [] true false)) .e .e) (.n (some (.row 37 1 xs nl false)) .e .e)),[],64,some []⟩
def C0S:Vm.St→Option PPd
 | ⟨[(0,.v 37 (.l bs)),(4,.o 0 1),(5,.o 1 1),(6,.b false),(7,.o 2 1),(12,.i .i64 n),(13,.i .i64 i)],(.n (some (.row 37 1 [] true false)) (.n (some (.row 5 1 [] true false)) .e .e) (.n (some (.row 37 1 xs nl false)) .e .e)),[],3,some []⟩=>some (.m bs xs nl n i)
 | _=>none
theorem C0T (τ:Vm.St) (x:PPd) (h:C0S τ=some x):τ=C49 x:=by
 unfold C0S at h
 split at h<;>first | (cases h;rfl) | cases h
theorem C9L (R:Type) (of:Nat→Option Ob) (x:PPd) (K:Vm.St→Option R) (kx:Exit→Vm.St→Option R):E8 T K19 (fun _=>none) false FU (C2 Tryz.prog 56) of R (lp (A4 Tryz.prog 56) 0) (C49 x) (H4 0 [999999,0,4,5,6,7,12,13] 64 K kx)=BPd R x (fun x'=>K (C49 x')) (D1s R kx):=by
 cases x with
 | m _ _ _ _ _=>kernel_rfl
def HPd:LS:=H9 T K19 (fun _=>none) (C2 Tryz.prog 56) (lp (A4 Tryz.prog 56) 0) 0 [999999,0,4,5,6,7,12,13] 64 C0S BPd D1s
theorem C0U:F0 Tryz.prog T (C2 Tryz.prog 56) 0 (lp (A4 Tryz.prog 56) 0) HPd :=
 C5 follows B6 D1U D1V B2 (A6 _) C49 C0T C9L
def C0V:Nat→LC:=atN 0 [(3,HPd)]
theorem C0W:H8 Tryz.prog T 56 C0V:=E7 0 (List.forall_mem_cons.2 ⟨C0U.1,fun _ h=>by cases h⟩) 1 (by kernel_rfl) ⟨trivial,loI (s0:=HPd) (by kernel_rfl) C0U⟩
theorem C5a (bs:List V) (n:Int):C4 Tryz.prog T K19 C0V false FU 56 (List Rs) (G2 T [37,3] [.l bs,.i n]) (fun _=>none) 0 (fun out=>H2 T true [.r 37,.d 37,.d 4] out)=pdG 37 37 4 bs n:=by kernel_rfl
def C0X:List (Nat×E5):=(56,F6 T true [37,3] (gF pdg (pdr 37 37 4)))::C0R
theorem A68:D2 Tryz.prog T C0X:=by
 refine B8 (sh:=true) (rk:=[.r 37,.d 37,.d 4]) (d:=4) (fu:=FU) (Lo:=C0V) (ds:=[.slice (.int .u8),.int .i64]) follows B6 A67 (by kernel_rfl) C0W 40 (by kernel_rfl) (fun xs hd hg=>?_)
 obtain ⟨a,b,rfl,ha,hb⟩:=A14 hd
 obtain ⟨n,rfl,_⟩:=hb
 rcases ha with rfl | ⟨ys,rfl,hy⟩
 ·exact (D0P hg).elim
 ·obtain ⟨ns,rfl,hn⟩:=u8s hy
  exact (C5a _ n).trans (C3j hn hg)
def K20:KC:=E9 Tryz.prog T C0X false FU 4
theorem D1W:K20.nat:=A8 A68 4
theorem D1X:W5 Tryz.prog T K20.dir:=B4 follows B6 A68 4
def C5b:PPu→Vm.St
 | .m xs l n i=>⟨[(3,.o 0 1),(7,.v 74 l),(8,.i .i64 n),(9,.i .i64 i)],(.n (some (.row 5 1 xs false false)) .e .e),[],1,some []⟩
def D1t (R:Type) (kx:Exit→Vm.St→Option R):QPu→Option R
 | .o xs l n i=>kx (.exit 0) ⟨[(3,.o 0 1),(7,.v 74 l),(8,.i .i64 n),(9,.i .i64 i)],(.n (some (.row 5 1 xs false false)) .e .e),[],64,some []⟩
def C0Y:Vm.St→Option PPu
 | ⟨[(3,.o 0 1),(7,.v 74 l),(8,.i .i64 n),(9,.i .i64 i)],(.n (some (.row 5 1 xs false false)) .e .e),[],1,some []⟩=>some (.m xs l n i)
 | _=>none
theorem C0Z (τ:Vm.St) (x:PPu) (h:C0Y τ=some x):τ=C5b x:=by
 unfold C0Y at h
 split at h<;>first | (cases h;rfl) | cases h
theorem C9M (R:Type) (of:Nat→Option Ob) (x:PPu) (K:Vm.St→Option R) (kx:Exit→Vm.St→Option R):E8 T K20 (fun _=>none) false FU (C2 Tryz.prog 65) of R (lp (A4 Tryz.prog 65) 0) (C5b x) (H4 0 [999999,3,7,8,9] 64 K kx)=BPu R x (fun x'=>K (C5b x')) (D1t R kx):=by
 cases x with
 | m _ _ _ _=>kernel_rfl
def HPu:LS:=H9 T K20 (fun _=>none) (C2 Tryz.prog 65) (lp (A4 Tryz.prog 65) 0) 0 [999999,3,7,8,9] 64 C0Y BPu D1t
theorem C00:F0 Tryz.prog T (C2 Tryz.prog 65) 0 (lp (A4 Tryz.prog 65) 0) HPu :=
 C5 follows B6 D1W D1X B2 (A6 _) C5b C0Z C9M
def C9N:Nat→LC:=atN 0 [(3,HPu)]
theorem C5c:H8 Tryz.prog T 65 C9N:=E7 0 (List.forall_mem_cons.2 ⟨C00.1,fun _ h=>by cases h⟩) 1 (by kernel_rfl) ⟨trivial,loI (s0:=HPu) (by kernel_rfl) C00⟩
theorem C9O (l:V):C4 Tryz.prog T K20 C9N false FU 65 (List Rs) (G2 T [74] [l]) (fun _=>none) 0 (fun out=>H2 T true [.r 5] out)=puG 5 l:=by kernel_rfl
def C01:List (Nat×E5):=(65,F6 T true [74] (gF pug (pur 5)))::C0X
theorem A69:D2 Tryz.prog T C01:=by
 refine B8 (sh:=true) (rk:=[.r 5]) (d:=4) (fu:=FU) (Lo:=C9N) (ds:=[.slice .str]) follows B6 A68 (by kernel_rfl) C5c 40 (by kernel_rfl) (fun xs hd hg=>?_)
 obtain ⟨a,rfl,ha⟩:=S4 hd
 exact (C9O a).trans (C3k ha hg)
def K21:KC:=E9 Tryz.prog T C01 false FU 4
theorem D2u:K21.nat:=A8 A69 4
theorem D2v:W5 Tryz.prog T K21.dir:=B4 follows B6 A69 4
end Go.Proofs.YtadjkmffodhmbaaGreat
namespace Go.Proofs.YtadjkmffodhmbaaGreat
open Go.Vm
set_option maxRecDepth 100000
set_option linter.unusedVariables false
set_option linter.constructorNameAsVariable false
theorem C5d (nm vl rd c:List V):C4 Tryz.prog T K21 (fun _ _=>none) false FU 57 (List Rs) (G2 T [49] [.l [.i 1,.s nm,.s vl,.s rd,.l c]]) (fun _=>none) 0 (fun out=>H2 T true [.r 5] out)=C7H 5 c:=by kernel_rfl
theorem C5e (nm vl rd c:List V):C4 Tryz.prog T K21 (fun _ _=>none) false FU 57 (List Rs) (G2 T [49] [.l [.i 2,.s nm,.s vl,.s rd,.l c]]) (fun _=>none) 0 (fun out=>H2 T true [.r 5] out)=C7I 5 nm rd vl:=by kernel_rfl
theorem C5f (nm vl rd c:List V):C4 Tryz.prog T K21 (fun _ _=>none) false FU 57 (List Rs) (G2 T [49] [.l [.i 3,.s nm,.s vl,.s rd,.l c]]) (fun _=>none) 0 (fun out=>H2 T true [.r 5] out)=C7J 5 nm vl:=by kernel_rfl
def C02:List (Nat×E5):=(57,F6 T true [49] (gF dkg (wdr 5)))::C01
theorem A7a:D2 Tryz.prog T C02:=by
 refine B8 (sh:=true) (rk:=[.r 5]) (d:=4) (fu:=FU) (Lo:=(fun _ _=>none)) (ds:=[B3s]) follows B6 A69 (by kernel_rfl) E3 40 (by kernel_rfl) (fun xs hd hg=>?_)
 obtain ⟨a,rfl,ha⟩:=S4 hd
 obtain ⟨k,nm,vl,rd,c,rfl,_,_,_,_,_,hcl⟩:=B1C ha
 have hdk:dkB (.l [.i k,.s (nm.map nv),.s (vl.map nv),.s (rd.map nv),.l (c.map nv)])=true:=hg
 obtain ⟨l1,l2,l3⟩:=B1D hdk
 rcases A6l hdk with rfl | rfl | rfl
 ·exact (C5d (nm.map nv) (vl.map nv) (rd.map nv) (c.map nv)).trans (B8n hcl)
 ·exact (C5e (nm.map nv) (vl.map nv) (rd.map nv) (c.map nv)).trans (B8o l1 l3 l2)
 ·exact (C5f (nm.map nv) (vl.map nv) (rd.map nv) (c.map nv)).trans (B8p l1 l2)
def K22:KC:=E9 Tryz.prog T C02 false FU 4
theorem D2w:K22.nat:=A8 A7a 4
theorem D2x:W5 Tryz.prog T K22.dir:=B4 follows B6 A7a 4
theorem C5g (nm vl rd c:List V):C4 Tryz.prog T K22 (fun _ _=>none) false FU 58 (List Rs) (G2 T [49] [.l [.i 1,.s nm,.s vl,.s rd,.l c]]) (fun _=>none) 0 (fun out=>H2 T true [.d 4] out)=C7K 4 nm rd vl:=by kernel_rfl
theorem C5h (nm vl rd c:List V):C4 Tryz.prog T K22 (fun _ _=>none) false FU 58 (List Rs) (G2 T [49] [.l [.i 2,.s nm,.s vl,.s rd,.l c]]) (fun _=>none) 0 (fun out=>H2 T true [.d 4] out)=C7L 4 nm rd vl (.l c):=by kernel_rfl
theorem C5i (nm vl rd c:List V):C4 Tryz.prog T K22 (fun _ _=>none) false FU 58 (List Rs) (G2 T [49] [.l [.i 3,.s nm,.s vl,.s rd,.l c]]) (fun _=>none) 0 (fun out=>H2 T true [.d 4] out)=C7M 4 nm rd vl (.l c):=by kernel_rfl
def C03:List (Nat×E5):=(58,F6 T true [49] (gF dkg (D1L 4)))::C02
theorem A7b:D2 Tryz.prog T C03:=by
 refine B8 (sh:=true) (rk:=[.d 4]) (d:=4) (fu:=FU) (Lo:=(fun _ _=>none)) (ds:=[B3s]) follows B6 A7a (by kernel_rfl) E3 40 (by kernel_rfl) (fun xs hd hg=>?_)
 obtain ⟨a,rfl,ha⟩:=S4 hd
 obtain ⟨k,nm,vl,rd,c,rfl,_,_,_,_,_,hcl⟩:=B1C ha
 have hdk:dkB (.l [.i k,.s (nm.map nv),.s (vl.map nv),.s (rd.map nv),.l (c.map nv)])=true:=hg
 obtain ⟨l1,l2,l3⟩:=B1D hdk
 rcases A6l hdk with rfl | rfl | rfl
 ·exact (C5g (nm.map nv) (vl.map nv) (rd.map nv) (c.map nv)).trans (B8s l1 l3 l2)
 ·exact (C5h (nm.map nv) (vl.map nv) (rd.map nv) (c.map nv)).trans (B8t l1 l3 l2)
 ·exact (C5i (nm.map nv) (vl.map nv) (rd.map nv) (c.map nv)).trans (B8u l1 l3 l2)
def K23:KC:=E9 Tryz.prog T C03 false FU 4
theorem D2y:K23.nat:=A8 A7b 4
theorem D2z:W5 Tryz.prog T K23.dir:=B4 follows B6 A7b 4
theorem C5j (nm vl rd c:List V):C4 Tryz.prog T K23 (fun _ _=>none) false FU 48 (List Rs) (G2 T [49,37] [.l [.i 1,.s nm,.s vl,.s rd,.l c],.n]) (fun _=>none) 0 (fun out=>H2 T true [.r 5,.d 3] out)=C7N 5 3 nm rd vl c:=by kernel_rfl
theorem C5k (nm vl rd c:List V):C4 Tryz.prog T K23 (fun _ _=>none) false FU 48 (List Rs) (G2 T [49,37] [.l [.i 2,.s nm,.s vl,.s rd,.l c],.n]) (fun _=>none) 0 (fun out=>H2 T true [.r 5,.d 3] out)=C7O 5 3 nm rd vl (.l c):=by kernel_rfl
theorem C5l (nm vl rd c:List V):C4 Tryz.prog T K23 (fun _ _=>none) false FU 48 (List Rs) (G2 T [49,37] [.l [.i 3,.s nm,.s vl,.s rd,.l c],.n]) (fun _=>none) 0 (fun out=>H2 T true [.r 5,.d 3] out)=C7P 5 3 nm rd vl (.l c):=by kernel_rfl
def C04:List (Nat×E5):=(48,F6 T true [49,37] (gF lkg (lkr 5 3)))::C03
theorem A7c:D2 Tryz.prog T C04:=by
 refine B8 (sh:=true) (rk:=[.r 5,.d 3]) (d:=4) (fu:=FU) (Lo:=(fun _ _=>none)) (ds:=[B3s,.slice (.int .u8)]) follows B6 A7b (by kernel_rfl) E3 40 (by kernel_rfl) (fun xs hd hg=>?_)
 obtain ⟨a,b,rfl,ha,hb⟩:=A14 hd
 have hg2:dkB a=true∧isN b=true:=by simpa [lkg] using hg
 obtain rfl:b=.n:=by rcases hb with rfl | ⟨ys,rfl,_⟩;rfl;exact absurd hg2.2 (by simp [isN])
 obtain ⟨k,nm,vl,rd,c,rfl,_,_,_,_,_,hcl⟩:=B1C ha
 have hdk:dkB (.l [.i k,.s (nm.map nv),.s (vl.map nv),.s (rd.map nv),.l (c.map nv)])=true:=hg2.1
 obtain ⟨l1,l2,l3⟩:=B1D hdk
 rcases A6l hdk with rfl | rfl | rfl
 ·exact (C5j (nm.map nv) (vl.map nv) (rd.map nv) (c.map nv)).trans (B8w hcl)
 ·exact (C5k (nm.map nv) (vl.map nv) (rd.map nv) (c.map nv)).trans (B8x l1 l3 l2)
 ·exact (C5l (nm.map nv) (vl.map nv) (rd.map nv) (c.map nv)).trans (B8y l1 l3 l2)
def K24:KC:=E9 Tryz.prog T C04 false FU 4
theorem C9P:K24.nat:=A8 A7c 4
theorem C9Q:W5 Tryz.prog T K24.dir:=B4 follows B6 A7c 4
end Go.Proofs.YtadjkmffodhmbaaGreat
namespace Go.Proofs.YtadjkmffodhmbaaGreat
open Go.Vm
set_option maxRecDepth 100000
set_option linter.unusedVariables false
set_option linter.constructorNameAsVariable false
def B31:B40→Vm.St
 | .m bs z e xs a=>⟨[(0,.v 37 (.l bs)),(2,.p 0 49 []),(3,.o 1 1),(4,.i .i64 0),(5,.p 2 49 []),(6,.o 3 1),(7,.i .i64 a)],(.n (some (.box 49 (.v 49 z) false)) (.n (some (.row 5 1 [] true false)) (.n (some (.row 9 1 xs false false)) .e .e) .e) (.n (some (.box 49 (.v 49 e) false)) .e .e)),[],4,some []⟩
def C6n (R:Type) (kx:Exit→Vm.St→Option R):C7C→Option R
 | .o bs z e xs a=>kx (.exit 0) ⟨[(0,.v 37 (.l bs)),(2,.p 0 49 []),(3,.o 1 1),(4,.i .i64 0),(5,.p 2 49 []),(6,.o 3 1),(7,.i .i64 a)],(.n (some (.box 49 (.v 49 z) false)) (.n (some (.row 5 1 [] true false)) (.n (some (.row 9 1 xs false false)) .e .e) .e) (.n (some (.box 49 (.v 49 e) false)) .e .e)),[],64,some []⟩
def B2v:Vm.St→Option B40
 | ⟨[(0,.v 37 (.l bs)),(2,.p 0 49 []),(3,.o 1 1),(4,.i .i64 0),(5,.p 2 49 []),(6,.o 3 1),(7,.i .i64 a)],(.n (some (.box 49 (.v 49 z) false)) (.n (some (.row 5 1 [] true false)) (.n (some (.row 9 1 xs false false)) .e .e) .e) (.n (some (.box 49 (.v 49 e) false)) .e .e)),[],4,some []⟩=>some (.m bs z e xs a)
 | _=>none
theorem B55 (τ:Vm.St) (x:B40) (h:B2v τ=some x):τ=B31 x:=by
 unfold B2v at h
 split at h<;>first | (cases h;rfl) | cases h
theorem C5m (R:Type) (of:Nat→Option Ob) (x:B40) (K:Vm.St→Option R) (kx:Exit→Vm.St→Option R):E8 T K24 (fun _=>none) false FU (C2 Tryz.prog 39) of R (lp (A4 Tryz.prog 39) 0) (B31 x) (H4 0 [999999,0,2,3,4,5,6,7] 64 K kx)=B8j R x (fun x'=>K (B31 x')) (C6n R kx):=by
 cases x with
 | m _ _ _ _ _=>kernel_rfl
def C9R:LS:=H9 T K24 (fun _=>none) (C2 Tryz.prog 39) (lp (A4 Tryz.prog 39) 0) 0 [999999,0,2,3,4,5,6,7] 64 B2v B8j C6n
theorem B32:F0 Tryz.prog T (C2 Tryz.prog 39) 0 (lp (A4 Tryz.prog 39) 0) C9R :=
 C5 follows B6 C9P C9Q B2 (A6 _) B31 B55 C5m
def B33:B41→Vm.St
 | .m bs z e xs=>⟨[(0,.v 37 (.l bs)),(2,.p 0 49 []),(3,.o 1 1),(4,.i .i64 0),(5,.p 2 49 []),(6,.o 3 1)],(.n (some (.box 49 (.v 49 z) false)) (.n (some (.row 5 1 [] true false)) (.n (some (.row 9 1 xs false false)) .e .e) .e) (.n (some (.box 49 (.v 49 e) false)) .e .e)),[],4,some []⟩
def C6o (R:Type) (kx:Exit→Vm.St→Option R):C7D→Option R
 | .o bs z e xs=>kx (.exit 2) ⟨[(0,.v 37 (.l bs)),(2,.p 0 49 []),(3,.o 1 1),(4,.i .i64 0),(5,.p 2 49 []),(6,.o 3 1)],(.n (some (.box 49 (.v 49 z) false)) (.n (some (.row 5 1 [] true false)) (.n (some (.row 9 1 xs false false)) .e .e) .e) (.n (some (.box 49 (.v 49 e) false)) .e .e)),[],128,some []⟩
def B2w:Vm.St→Option B41
 | ⟨[(0,.v 37 (.l bs)),(2,.p 0 49 []),(3,.o 1 1),(4,.i .i64 0),(5,.p 2 49 []),(6,.o 3 1)],(.n (some (.box 49 (.v 49 z) false)) (.n (some (.row 5 1 [] true false)) (.n (some (.row 9 1 xs false false)) .e .e) .e) (.n (some (.box 49 (.v 49 e) false)) .e .e)),[],4,some []⟩=>some (.m bs z e xs)
 | _=>none
theorem B56 (τ:Vm.St) (x:B41) (h:B2w τ=some x):τ=B33 x:=by
 unfold B2w at h
 split at h<;>first | (cases h;rfl) | cases h
theorem C5n (R:Type) (of:Nat→Option Ob) (x:B41) (K:Vm.St→Option R) (kx:Exit→Vm.St→Option R):E8 T K24 (fun _=>none) false FU (C2 Tryz.prog 39) of R (lp (A4 Tryz.prog 39) 1) (B33 x) (H4 0 [999999,0,2,3,4,5,6] 128 K kx)=B42 R x (fun x'=>K (B33 x')) (C6o R kx):=by
 cases x with
 | m _ _ _ _=>kernel_rfl
def C9S:LS:=H9 T K24 (fun _=>none) (C2 Tryz.prog 39) (lp (A4 Tryz.prog 39) 1) 0 [999999,0,2,3,4,5,6] 128 B2w B42 C6o
theorem B34:F0 Tryz.prog T (C2 Tryz.prog 39) 0 (lp (A4 Tryz.prog 39) 1) C9S :=
 C5 follows B6 C9P C9Q B2 (A6 _) B33 B56 C5n
def B35:B43→Vm.St
 | .m bs z e xs i=>⟨[(0,.v 37 (.l bs)),(2,.p 0 49 []),(3,.o 1 1),(4,.i .i64 0),(5,.p 2 49 []),(6,.o 3 1),(85,.i .i64 i)],(.n (some (.box 49 (.v 49 z) false)) (.n (some (.row 5 1 [] true false)) (.n (some (.row 9 1 xs false false)) .e .e) .e) (.n (some (.box 49 (.v 49 e) false)) .e .e)),[],4,some []⟩
def C6p (R:Type) (kx:Exit→Vm.St→Option R):C7E→Option R
 | .o bs z e xs i=>kx (.exit 5) ⟨[(0,.v 37 (.l bs)),(2,.p 0 49 []),(3,.o 1 1),(4,.i .i64 0),(5,.p 2 49 []),(6,.o 3 1),(85,.i .i64 i)],(.n (some (.box 49 (.v 49 z) false)) (.n (some (.row 5 1 [] true false)) (.n (some (.row 9 1 xs false false)) .e .e) .e) (.n (some (.box 49 (.v 49 e) false)) .e .e)),[],256,some []⟩
def B2x:Vm.St→Option B43
 | ⟨[(0,.v 37 (.l bs)),(2,.p 0 49 []),(3,.o 1 1),(4,.i .i64 0),(5,.p 2 49 []),(6,.o 3 1),(85,.i .i64 i)],(.n (some (.box 49 (.v 49 z) false)) (.n (some (.row 5 1 [] true false)) (.n (some (.row 9 1 xs false false)) .e .e) .e) (.n (some (.box 49 (.v 49 e) false)) .e .e)),[],4,some []⟩=>some (.m bs z e xs i)
 | _=>none
theorem B57 (τ:Vm.St) (x:B43) (h:B2x τ=some x):τ=B35 x:=by
 unfold B2x at h
 split at h<;>first | (cases h;rfl) | cases h
theorem C5o (R:Type) (of:Nat→Option Ob) (x:B43) (K:Vm.St→Option R) (kx:Exit→Vm.St→Option R):E8 T K24 (fun _=>none) false FU (C2 Tryz.prog 39) of R (lp (A4 Tryz.prog 39) 2) (B35 x) (H4 0 [999999,0,2,3,4,5,6,85] 256 K kx)=B1y R x (fun x'=>K (B35 x')) (C6p R kx):=by
 cases x with
 | m _ _ _ _ _=>kernel_rfl
def C9T:LS:=H9 T K24 (fun _=>none) (C2 Tryz.prog 39) (lp (A4 Tryz.prog 39) 2) 0 [999999,0,2,3,4,5,6,85] 256 B2x B1y C6p
theorem B36:F0 Tryz.prog T (C2 Tryz.prog 39) 0 (lp (A4 Tryz.prog 39) 2) C9T :=
 C5 follows B6 C9P C9Q B2 (A6 _) B35 B57 C5o
def B37:Nat→LC:=atN 0 [(6,C9R),(11,C9S),(18,C9T)]
theorem C05:H8 Tryz.prog T 39 B37:=E7 0 (List.forall_mem_cons.2 ⟨B32.1,List.forall_mem_cons.2 ⟨B34.1,List.forall_mem_cons.2 ⟨B36.1,fun _ h=>by cases h⟩⟩⟩) 3 (by kernel_rfl) ⟨⟨⟨trivial,loI (s0:=C9R) (by kernel_rfl) B32⟩,loI (s0:=C9S) (by kernel_rfl) B34⟩,loI (s0:=C9T) (by kernel_rfl) B36⟩
theorem C5p (bs:List V):C4 Tryz.prog T K24 B37 false FU 39 (List Rs) (G2 T [37] [.l bs]) (fun _=>none) 0 (fun out=>H2 T true [.d 49,.r 5,.d 3] out)=C7R 49 5 3 bs:=by kernel_rfl
theorem C06  : C4 Tryz.prog T K24 B37 false FU 39 (List Rs) (G2 T [37] [.n]) (fun _=>none) 0 (fun out=>H2 T true [.d 49,.r 5,.d 3] out)=some (spr 49 5 3 false [.n]):=by kernel_rfl
def C07:List (Nat×E5):=(39,F6 T true [37] (gF spg (spr 49 5 3 false)))::C04
theorem A7d:D2 Tryz.prog T C07:=by
 refine B8 (sh:=true) (rk:=[.d 49,.r 5,.d 3]) (d:=4) (fu:=FU) (Lo:=B37) (ds:=[.slice (.int .u8)]) follows B6 A7c (by kernel_rfl) C05 40 (by kernel_rfl) (fun xs hd hg=>?_)
 obtain ⟨a,rfl,ha⟩:=S4 hd
 have hl:a.els.length≤30000:=D2N hg
 rcases ha with rfl | ⟨ys,rfl,hy⟩
 ·exact C06
 ·obtain ⟨ns,rfl,hn⟩:=u8s hy
  exact (C5p _).trans (B8D hn (by rw [← D2L (f:=nv)];exact hl))
def K25:KC:=E9 Tryz.prog T C07 false FU 4
theorem D2A:K25.nat:=A8 A7d 4
theorem D2B:W5 Tryz.prog T K25.dir:=B4 follows B6 A7d 4
theorem C5q (bs:List V):C4 Tryz.prog T K25 (fun _ _=>none) false FU 41 (List Rs) (G2 T [37] [.l bs]) (fun _=>none) 0 (fun out=>H2 T true [.d 49,.r 5,.d 50] out)=C7Q 49 5 50 bs:=by kernel_rfl
theorem C08  : C4 Tryz.prog T K25 (fun _ _=>none) false FU 41 (List Rs) (G2 T [37] [.n]) (fun _=>none) 0 (fun out=>H2 T true [.d 49,.r 5,.d 50] out)=some (spr 49 5 50 true [.n]):=by kernel_rfl
def C09:List (Nat×E5):=(41,F6 T true [37] (gF spg (spr 49 5 50 true)))::C07
theorem A7e:D2 Tryz.prog T C09:=by
 refine B8 (sh:=true) (rk:=[.d 49,.r 5,.d 50]) (d:=4) (fu:=FU) (Lo:=(fun _ _=>none)) (ds:=[.slice (.int .u8)]) follows B6 A7d (by kernel_rfl) E3 40 (by kernel_rfl) (fun xs hd hg=>?_)
 obtain ⟨a,rfl,ha⟩:=S4 hd
 have hl:a.els.length≤30000:=D2N hg
 rcases ha with rfl | ⟨ys,rfl,hy⟩
 ·exact C08
 ·obtain ⟨ns,rfl,hn⟩:=u8s hy
  exact (C5q _).trans (B8A hn (by rw [← D2L (f:=nv)];exact hl))
def K26:KC:=E9 Tryz.prog T C09 false FU 4
theorem B2y:K26.nat:=A8 A7e 4
theorem C1a:W5 Tryz.prog T K26.dir:=B4 follows B6 A7e 4
end Go.Proofs.YtadjkmffodhmbaaGreat
namespace Go.Proofs.YtadjkmffodhmbaaGreat
open Go.Vm
set_option maxRecDepth 100000
set_option linter.unusedVariables false
set_option linter.constructorNameAsVariable false
def C5r:PHi→Vm.St
 | .b s m l xs n i nl sh=>⟨[(0,.p 0 175 []),(6,.v 119 (.l l)),(7,.i .i64 n),(8,.i .i64 i)],(.n (some (.box 175 (.g 175 [.v 172 s,.o 1 1,.i .u64 m]) false)) (.n (some (.row 5 1 xs nl sh)) .e .e) .e),[0],2,some []⟩
 | .c s m l xs n i off q sh=>⟨[(0,.p 0 175 []),(6,.v 119 (.l l)),(7,.i .i64 n),(8,.i .i64 i)],(.n (some (.box 175 (.g 175 [.v 172 s,.w 1 1 off q,.i .u64 m]) false)) (.n (some (.row 5 1 xs false sh)) .e .e) .e),[0],2,some []⟩
def D1u (R:Type) (kx:Exit→Vm.St→Option R):QHi→Option R
 | .b s m l xs n i nl sh=>kx (.exit 2) ⟨[(0,.p 0 175 []),(6,.v 119 (.l l)),(7,.i .i64 n),(8,.i .i64 i)],(.n (some (.box 175 (.g 175 [.v 172 s,.o 1 1,.i .u64 m]) false)) (.n (some (.row 5 1 xs nl sh)) .e .e) .e),[0],16,some []⟩
 | .c s m l xs n i off q sh=>kx (.exit 2) ⟨[(0,.p 0 175 []),(6,.v 119 (.l l)),(7,.i .i64 n),(8,.i .i64 i)],(.n (some (.box 175 (.g 175 [.v 172 s,.w 1 1 off q,.i .u64 m]) false)) (.n (some (.row 5 1 xs false sh)) .e .e) .e),[0],16,some []⟩
def C1b:Vm.St→Option PHi
 | ⟨[(0,.p 0 175 []),(6,.v 119 (.l l)),(7,.i .i64 n),(8,.i .i64 i)],(.n (some (.box 175 (.g 175 [.v 172 s,.o 1 1,.i .u64 m]) false)) (.n (some (.row 5 1 xs nl sh)) .e .e) .e),[0],2,some []⟩=>some (.b s m l xs n i nl sh)
 | ⟨[(0,.p 0 175 []),(6,.v 119 (.l l)),(7,.i .i64 n),(8,.i .i64 i)],(.n (some (.box 175 (.g 175 [.v 172 s,.w 1 1 off q,.i .u64 m]) false)) (.n (some (.row 5 1 xs false sh)) .e .e) .e),[0],2,some []⟩=>some (.c s m l xs n i off q sh)
 | _=>none
theorem C1c (τ:Vm.St) (x:PHi) (h:C1b τ=some x):τ=C5r x:=by
 unfold C1b at h
 split at h<;>first | (cases h;rfl) | cases h
theorem C9U (R:Type) (of:Nat→Option Ob) (x:PHi) (K:Vm.St→Option R) (kx:Exit→Vm.St→Option R):E8 T K26 (fun _=>none) false FU (C2 Tryz.prog 95) of R (lp (A4 Tryz.prog 95) 1) (C5r x) (H4 1 [0,6,7,8] 16 K kx)=BHi R x (fun x'=>K (C5r x')) (D1u R kx):=by
 cases x with
 | b _ _ _ _ _ _ nl _=>cases nl<;>kernel_rfl
 | c _ _ _ _ _ _ _ _ _=>kernel_rfl
def HHi:LS:=H9 T K26 (fun _=>none) (C2 Tryz.prog 95) (lp (A4 Tryz.prog 95) 1) 1 [0,6,7,8] 16 C1b BHi D1u
theorem A9q:F0 Tryz.prog T (C2 Tryz.prog 95) 1 (lp (A4 Tryz.prog 95) 1) HHi :=
 C5 follows B6 B2y C1a B2 (A6 _) C5r C1c C9U
def B2z:PHo→Vm.St
 | .a s m l n i=>⟨[(0,.p 0 175 []),(6,.v 119 (.l l)),(7,.i .i64 n),(8,.i .i64 i)],(.n (some (.box 175 (.v 175 (.l [s,.n,.i m])) false)) .e .e),[0],1,some []⟩
 | .b s m l xs n i nl sh=>⟨[(0,.p 0 175 []),(6,.v 119 (.l l)),(7,.i .i64 n),(8,.i .i64 i)],(.n (some (.box 175 (.g 175 [.v 172 s,.o 1 1,.i .u64 m]) false)) (.n (some (.row 5 1 xs nl sh)) .e .e) .e),[0],2,some []⟩
 | .c s m l xs n i off q sh=>⟨[(0,.p 0 175 []),(6,.v 119 (.l l)),(7,.i .i64 n),(8,.i .i64 i)],(.n (some (.box 175 (.g 175 [.v 172 s,.w 1 1 off q,.i .u64 m]) false)) (.n (some (.row 5 1 xs false sh)) .e .e) .e),[0],2,some []⟩
def D1v (R:Type) (kx:Exit→Vm.St→Option R):QHo→Option R
 | .a s m l n i=>kx (.exit 0) ⟨[(0,.p 0 175 []),(6,.v 119 (.l l)),(7,.i .i64 n),(8,.i .i64 i)],(.n (some (.box 175 (.v 175 (.l [s,.n,.i m])) false)) .e .e),[0],64,some []⟩
 | .b s m l xs n i nl sh=>kx (.exit 0) ⟨[(0,.p 0 175 []),(6,.v 119 (.l l)),(7,.i .i64 n),(8,.i .i64 i)],(.n (some (.box 175 (.g 175 [.v 172 s,.o 1 1,.i .u64 m]) false)) (.n (some (.row 5 1 xs nl sh)) .e .e) .e),[0],64,some []⟩
 | .c s m l xs n i off q sh=>kx (.exit 0) ⟨[(0,.p 0 175 []),(6,.v 119 (.l l)),(7,.i .i64 n),(8,.i .i64 i)],(.n (some (.box 175 (.g 175 [.v 172 s,.w 1 1 off q,.i .u64 m]) false)) (.n (some (.row 5 1 xs false sh)) .e .e) .e),[0],64,some []⟩
def A5o:Vm.St→Option PHo
 | ⟨[(0,.p 0 175 []),(6,.v 119 (.l l)),(7,.i .i64 n),(8,.i .i64 i)],(.n (some (.box 175 (.v 175 (.l [s,.n,.i m])) false)) .e .e),[0],1,some []⟩=>some (.a s m l n i)
 | _=>none
theorem B2A (τ:Vm.St) (x:PHo) (h:A5o τ=some x):τ=B2z x:=by
 unfold A5o at h
 split at h<;>first | (cases h;rfl) | cases h
def A5p:Vm.St→Option PHo
 | ⟨[(0,.p 0 175 []),(6,.v 119 (.l l)),(7,.i .i64 n),(8,.i .i64 i)],(.n (some (.box 175 (.g 175 [.v 172 s,.o 1 1,.i .u64 m]) false)) (.n (some (.row 5 1 xs nl sh)) .e .e) .e),[0],2,some []⟩=>some (.b s m l xs n i nl sh)
 | _=>none
theorem B2B (τ:Vm.St) (x:PHo) (h:A5p τ=some x):τ=B2z x:=by
 unfold A5p at h
 split at h<;>first | (cases h;rfl) | cases h
def A5q:Vm.St→Option PHo
 | ⟨[(0,.p 0 175 []),(6,.v 119 (.l l)),(7,.i .i64 n),(8,.i .i64 i)],(.n (some (.box 175 (.g 175 [.v 172 s,.w 1 1 off q,.i .u64 m]) false)) (.n (some (.row 5 1 xs false sh)) .e .e) .e),[0],2,some []⟩=>some (.c s m l xs n i off q sh)
 | _=>none
theorem B2C (τ:Vm.St) (x:PHo) (h:A5q τ=some x):τ=B2z x:=by
 unfold A5q at h
 split at h<;>first | (cases h;rfl) | cases h
def C1d (τ:Vm.St):Option PHo:=oc (A5o τ) some (oc (A5p τ) some (oc (A5q τ) some (none)))
theorem C1e (τ:Vm.St) (x:PHo) (h:C1d τ=some x):τ=B2z x:=by
 unfold C1d at h
 cases h0:A5o τ with
 | some y=>rw [h0] at h;cases h;exact B2A τ _ h0
 | none =>
 rw [h0] at h;simp only [oc] at h
 cases h1:A5p τ with
 | some y=>rw [h1] at h;cases h;exact B2B τ _ h1
 | none =>
 rw [h1] at h;simp only [oc] at h
 cases h2:A5q τ with
 | some y=>rw [h2] at h;cases h;exact B2C τ _ h2
 | none =>
 rw [h2] at h;simp only [oc] at h
 cases h
theorem C9V (R:Type) (of:Nat→Option Ob) (x:PHo) (K:Vm.St→Option R) (kx:Exit→Vm.St→Option R):E8 T K26 (loT [(5,HHi)]) false FU (C2 Tryz.prog 95) of R (lp (A4 Tryz.prog 95) 0) (B2z x) (H4 1 [0,6,7,8] 64 K kx)=BHo R x (fun x'=>K (B2z x')) (D1v R kx):=by
 cases x with
 | a _ _ _ _ _=>kernel_rfl
 | b _ _ _ _ _ _ _ _=>kernel_rfl
 | c _ _ _ _ _ _ _ _ _=>kernel_rfl
def HHo:LS:=H9 T K26 (loT [(5,HHi)]) (C2 Tryz.prog 95) (lp (A4 Tryz.prog 95) 0) 1 [0,6,7,8] 64 C1d BHo D1v
theorem C1f:F0 Tryz.prog T (C2 Tryz.prog 95) 1 (lp (A4 Tryz.prog 95) 0) HHo :=
 C5 follows B6 B2y C1a (A5d (List.forall_mem_cons.2 ⟨A9q.1,fun _ h=>by cases h⟩)) (A1U 1 (by kernel_rfl) ⟨trivial,loI (s0:=HHi) (by kernel_rfl) ((show lp (lp (A4 Tryz.prog 95) 0) 0=lp (A4 Tryz.prog 95) 1 from by kernel_rfl) ▸ A9q)⟩) B2z C1e C9V
def C6q:Nat→LC:=atN 1 [(1,HHo),(5,HHi)]
theorem C1g:H8 Tryz.prog T 95 C6q:=E7 1 (List.forall_mem_cons.2 ⟨C1f.1,List.forall_mem_cons.2 ⟨A9q.1,fun _ h=>by cases h⟩⟩) 2 (by kernel_rfl) ⟨⟨trivial,loI (s0:=HHo) (by kernel_rfl) C1f⟩,loI (s0:=HHi) (by kernel_rfl) A9q⟩
def C5s:PHp→Vm.St
 | .b s m rs nl sh z xs=>⟨[(0,.p 0 175 []),(2,.p 2 34 []),(3,.o 3 1)],(.n (some (.box 175 (.g 175 [.v 172 s,.o 1 1,.i .u64 m]) false)) (.n (some (.row 5 1 rs nl sh)) (.n (some (.row 5 1 xs false false)) .e .e) .e) (.n (some (.box 34 (.v 34 z) false)) .e .e)),[1,0],4,some []⟩
 | .c s m rs off q sh z xs=>⟨[(0,.p 0 175 []),(2,.p 2 34 []),(3,.o 3 1)],(.n (some (.box 175 (.g 175 [.v 172 s,.w 1 1 off q,.i .u64 m]) false)) (.n (some (.row 5 1 rs false sh)) (.n (some (.row 5 1 xs false false)) .e .e) .e) (.n (some (.box 34 (.v 34 z) false)) .e .e)),[1,0],4,some []⟩
def D1w (R:Type) (kx:Exit→Vm.St→Option R):QHp→Option R
 | .b s m rs nl sh z xs=>kx (.exit 0) ⟨[(0,.p 0 175 []),(2,.p 2 34 []),(3,.o 3 1)],(.n (some (.box 175 (.g 175 [.v 172 s,.o 1 1,.i .u64 m]) false)) (.n (some (.row 5 1 rs nl sh)) (.n (some (.row 5 1 xs false false)) .e .e) .e) (.n (some (.box 34 (.v 34 z) false)) .e .e)),[1,0],16,some []⟩
 | .c s m rs off q sh z xs=>kx (.exit 0) ⟨[(0,.p 0 175 []),(2,.p 2 34 []),(3,.o 3 1)],(.n (some (.box 175 (.g 175 [.v 172 s,.w 1 1 off q,.i .u64 m]) false)) (.n (some (.row 5 1 rs false sh)) (.n (some (.row 5 1 xs false false)) .e .e) .e) (.n (some (.box 34 (.v 34 z) false)) .e .e)),[1,0],16,some []⟩
def C1h:Vm.St→Option PHp
 | ⟨[(0,.p 0 175 []),(2,.p 2 34 []),(3,.o 3 1)],(.n (some (.box 175 (.g 175 [.v 172 s,.o 1 1,.i .u64 m]) false)) (.n (some (.row 5 1 rs nl sh)) (.n (some (.row 5 1 xs false false)) .e .e) .e) (.n (some (.box 34 (.v 34 z) false)) .e .e)),[1,0],4,some []⟩=>some (.b s m rs nl sh z xs)
 | ⟨[(0,.p 0 175 []),(2,.p 2 34 []),(3,.o 3 1)],(.n (some (.box 175 (.g 175 [.v 172 s,.w 1 1 off q,.i .u64 m]) false)) (.n (some (.row 5 1 rs false sh)) (.n (some (.row 5 1 xs false false)) .e .e) .e) (.n (some (.box 34 (.v 34 z) false)) .e .e)),[1,0],4,some []⟩=>some (.c s m rs off q sh z xs)
 | _=>none
theorem C1i (τ:Vm.St) (x:PHp) (h:C1h τ=some x):τ=C5s x:=by
 unfold C1h at h
 split at h<;>first | (cases h;rfl) | cases h
theorem C9W (R:Type) (of:Nat→Option Ob) (x:PHp) (K:Vm.St→Option R) (kx:Exit→Vm.St→Option R):E8 T K26 (fun _=>none) false FU (C2 Tryz.prog 96) of R (lp (A4 Tryz.prog 96) 0) (C5s x) (H4 2 [0,2,3] 16 K kx)=BHp R x (fun x'=>K (C5s x')) (D1w R kx):=by
 cases x with
 | b _ _ _ _ _ _ _=>kernel_rfl
 | c _ _ _ _ _ _ _ _=>kernel_rfl
def HHp:LS:=H9 T K26 (fun _=>none) (C2 Tryz.prog 96) (lp (A4 Tryz.prog 96) 0) 2 [0,2,3] 16 C1h BHp D1w
theorem C1j:F0 Tryz.prog T (C2 Tryz.prog 96) 2 (lp (A4 Tryz.prog 96) 0) HHp :=
 C5 follows B6 B2y C1a B2 (A6 _) C5s C1i C9W
def B0M:PHm→Vm.St
 | .b0 s m rs nl sh z st xs=>⟨[(2,.p 2 34 []),(3,.o 3 1),(6,.p 24 172 [])],(.n (some (.box 175 (.g 175 [.v 172 s,.o 1 1,.i .u64 m]) false)) (.n (some (.row 5 1 rs nl sh)) (.n (some (.row 5 1 xs false false)) .e .e) .e) (.n (some (.box 34 (.v 34 z) false)) (.n none (.n none .e (.n (some (.box 172 (.v 172 st) false)) .e .e)) .e) .e)),[1,0],25,some []⟩
 | .b1 s m rs nl sh z st xs o2 q2=>⟨[(2,.p 2 34 []),(3,.w 3 1 o2 q2),(6,.p 24 172 [])],(.n (some (.box 175 (.g 175 [.v 172 s,.o 1 1,.i .u64 m]) false)) (.n (some (.row 5 1 rs nl sh)) (.n (some (.row 5 1 xs false false)) .e .e) .e) (.n (some (.box 34 (.v 34 z) false)) (.n none (.n none .e (.n (some (.box 172 (.v 172 st) false)) .e .e)) .e) .e)),[1,0],25,some []⟩
 | .c0 s m rs off q sh z st xs=>⟨[(2,.p 2 34 []),(3,.o 3 1),(6,.p 24 172 [])],(.n (some (.box 175 (.g 175 [.v 172 s,.w 1 1 off q,.i .u64 m]) false)) (.n (some (.row 5 1 rs false sh)) (.n (some (.row 5 1 xs false false)) .e .e) .e) (.n (some (.box 34 (.v 34 z) false)) (.n none (.n none .e (.n (some (.box 172 (.v 172 st) false)) .e .e)) .e) .e)),[1,0],25,some []⟩
 | .c1 s m rs off q sh z st xs o2 q2=>⟨[(2,.p 2 34 []),(3,.w 3 1 o2 q2),(6,.p 24 172 [])],(.n (some (.box 175 (.g 175 [.v 172 s,.w 1 1 off q,.i .u64 m]) false)) (.n (some (.row 5 1 rs false sh)) (.n (some (.row 5 1 xs false false)) .e .e) .e) (.n (some (.box 34 (.v 34 z) false)) (.n none (.n none .e (.n (some (.box 172 (.v 172 st) false)) .e .e)) .e) .e)),[1,0],25,some []⟩
def D1x (R:Type) (kx:Exit→Vm.St→Option R):QHm→Option R
 | .b0 s m rs nl sh z st xs=>kx (.exit 4) ⟨[(2,.p 2 34 []),(3,.o 3 1),(6,.p 24 172 [])],(.n (some (.box 175 (.g 175 [.v 172 s,.o 1 1,.i .u64 m]) false)) (.n (some (.row 5 1 rs nl sh)) (.n (some (.row 5 1 xs false false)) .e .e) .e) (.n (some (.box 34 (.v 34 z) false)) (.n none (.n none .e (.n (some (.box 172 (.v 172 st) false)) .e .e)) .e) .e)),[1,0],32,some []⟩
 | .b1 s m rs nl sh z st xs o2 q2=>kx (.exit 4) ⟨[(2,.p 2 34 []),(3,.w 3 1 o2 q2),(6,.p 24 172 [])],(.n (some (.box 175 (.g 175 [.v 172 s,.o 1 1,.i .u64 m]) false)) (.n (some (.row 5 1 rs nl sh)) (.n (some (.row 5 1 xs false false)) .e .e) .e) (.n (some (.box 34 (.v 34 z) false)) (.n none (.n none .e (.n (some (.box 172 (.v 172 st) false)) .e .e)) .e) .e)),[1,0],32,some []⟩
 | .c0 s m rs off q sh z st xs=>kx (.exit 4) ⟨[(2,.p 2 34 []),(3,.o 3 1),(6,.p 24 172 [])],(.n (some (.box 175 (.g 175 [.v 172 s,.w 1 1 off q,.i .u64 m]) false)) (.n (some (.row 5 1 rs false sh)) (.n (some (.row 5 1 xs false false)) .e .e) .e) (.n (some (.box 34 (.v 34 z) false)) (.n none (.n none .e (.n (some (.box 172 (.v 172 st) false)) .e .e)) .e) .e)),[1,0],32,some []⟩
 | .c1 s m rs off q sh z st xs o2 q2=>kx (.exit 4) ⟨[(2,.p 2 34 []),(3,.w 3 1 o2 q2),(6,.p 24 172 [])],(.n (some (.box 175 (.g 175 [.v 172 s,.w 1 1 off q,.i .u64 m]) false)) (.n (some (.row 5 1 rs false sh)) (.n (some (.row 5 1 xs false false)) .e .e) .e) (.n (some (.box 34 (.v 34 z) false)) (.n none (.n none .e (.n (some (.box 172 (.v 172 st) false)) .e .e)) .e) .e)),[1,0],32,some []⟩
def A5r:Vm.St→Option PHm
 | ⟨[(2,.p 2 34 []),(3,.o 3 1),(6,.p 24 172 [])],(.n (some (.box 175 (.g 175 [.v 172 s,.o 1 1,.i .u64 m]) false)) (.n (some (.row 5 1 rs nl sh)) (.n (some (.row 5 1 xs false false)) .e .e) .e) (.n (some (.box 34 (.v 34 z) false)) (.n none (.n none .e (.n (some (.box 172 (.v 172 st) false)) .e .e)) .e) .e)),[1,0],25,some []⟩=>some (.b0 s m rs nl sh z st xs)
 | _=>none
theorem B2D (τ:Vm.St) (x:PHm) (h:A5r τ=some x):τ=B0M x:=by
 unfold A5r at h
 split at h<;>first | (cases h;rfl) | cases h
def A5s:Vm.St→Option PHm
 | ⟨[(2,.p 2 34 []),(3,.w 3 1 o2 q2),(6,.p 24 172 [])],(.n (some (.box 175 (.g 175 [.v 172 s,.o 1 1,.i .u64 m]) false)) (.n (some (.row 5 1 rs nl sh)) (.n (some (.row 5 1 xs false false)) .e .e) .e) (.n (some (.box 34 (.v 34 z) false)) (.n none (.n none .e (.n (some (.box 172 (.v 172 st) false)) .e .e)) .e) .e)),[1,0],25,some []⟩=>some (.b1 s m rs nl sh z st xs o2 q2)
 | _=>none
theorem B2E (τ:Vm.St) (x:PHm) (h:A5s τ=some x):τ=B0M x:=by
 unfold A5s at h
 split at h<;>first | (cases h;rfl) | cases h
def A5t:Vm.St→Option PHm
 | ⟨[(2,.p 2 34 []),(3,.o 3 1),(6,.p 24 172 [])],(.n (some (.box 175 (.g 175 [.v 172 s,.w 1 1 off q,.i .u64 m]) false)) (.n (some (.row 5 1 rs false sh)) (.n (some (.row 5 1 xs false false)) .e .e) .e) (.n (some (.box 34 (.v 34 z) false)) (.n none (.n none .e (.n (some (.box 172 (.v 172 st) false)) .e .e)) .e) .e)),[1,0],25,some []⟩=>some (.c0 s m rs off q sh z st xs)
 | _=>none
theorem B2F (τ:Vm.St) (x:PHm) (h:A5t τ=some x):τ=B0M x:=by
 unfold A5t at h
 split at h<;>first | (cases h;rfl) | cases h
def A5u:Vm.St→Option PHm
 | ⟨[(2,.p 2 34 []),(3,.w 3 1 o2 q2),(6,.p 24 172 [])],(.n (some (.box 175 (.g 175 [.v 172 s,.w 1 1 off q,.i .u64 m]) false)) (.n (some (.row 5 1 rs false sh)) (.n (some (.row 5 1 xs false false)) .e .e) .e) (.n (some (.box 34 (.v 34 z) false)) (.n none (.n none .e (.n (some (.box 172 (.v 172 st) false)) .e .e)) .e) .e)),[1,0],25,some []⟩=>some (.c1 s m rs off q sh z st xs o2 q2)
 | _=>none
theorem B2G (τ:Vm.St) (x:PHm) (h:A5u τ=some x):τ=B0M x:=by
 unfold A5u at h
 split at h<;>first | (cases h;rfl) | cases h
def C1k (τ:Vm.St):Option PHm:=oc (A5r τ) some (oc (A5s τ) some (oc (A5t τ) some (oc (A5u τ) some (none))))
theorem C1l (τ:Vm.St) (x:PHm) (h:C1k τ=some x):τ=B0M x:=by
 unfold C1k at h
 cases h0:A5r τ with
 | some y=>rw [h0] at h;cases h;exact B2D τ _ h0
 | none =>
 rw [h0] at h;simp only [oc] at h
 cases h1:A5s τ with
 | some y=>rw [h1] at h;cases h;exact B2E τ _ h1
 | none =>
 rw [h1] at h;simp only [oc] at h
 cases h2:A5t τ with
 | some y=>rw [h2] at h;cases h;exact B2F τ _ h2
 | none =>
 rw [h2] at h;simp only [oc] at h
 cases h3:A5u τ with
 | some y=>rw [h3] at h;cases h;exact B2G τ _ h3
 | none =>
 rw [h3] at h;simp only [oc] at h
 cases h
theorem C9X (R:Type) (of:Nat→Option Ob) (x:PHm) (K:Vm.St→Option R) (kx:Exit→Vm.St→Option R):E8 T K26 (fun _=>none) false FU (C2 Tryz.prog 96) of R (lp (A4 Tryz.prog 96) 2) (B0M x) (H4 2 [2,3,6] 32 K kx)=BHm R x (fun x'=>K (B0M x')) (D1x R kx):=by
 cases x with
 | b0 _ _ _ _ _ _ _ _=>kernel_rfl
 | b1 _ _ _ _ _ _ _ _ _ _=>kernel_rfl
 | c0 _ _ _ _ _ _ _ _ _=>kernel_rfl
 | c1 _ _ _ _ _ _ _ _ _ _ _=>kernel_rfl
def HHm:LS:=H9 T K26 (fun _=>none) (C2 Tryz.prog 96) (lp (A4 Tryz.prog 96) 2) 2 [2,3,6] 32 C1k BHm D1x
theorem C1m:F0 Tryz.prog T (C2 Tryz.prog 96) 2 (lp (A4 Tryz.prog 96) 2) HHm :=
 C5 follows B6 B2y C1a B2 (A6 _) B0M C1l C9X
def C6r:Nat→LC:=atN 2 [(3,HHp),(12,HHm)]
theorem A3Y:H8 Tryz.prog T 96 C6r:=E7 2 (List.forall_mem_cons.2 ⟨C1j.1,List.forall_mem_cons.2 ⟨C1m.1,fun _ h=>by cases h⟩⟩) 4 (by kernel_rfl) ⟨⟨⟨⟨trivial,loI (s0:=HHp) (by kernel_rfl) C1j⟩,loN (by kernel_rfl)⟩,loI (s0:=HHm) (by kernel_rfl) C1m⟩,loN (by kernel_rfl)⟩
def C6s:List (Nat×E5):=(95,trS (A1k Tryz.prog T K26 C6q false FU 95))::C09
theorem C1n:D2 Tryz.prog T C6s:=D2.runP follows B6 A7e C1g
def C1o:List (Nat×E5):=(96,trS (A1k Tryz.prog T K26 C6r false FU 96))::C6s
theorem A7f:D2 Tryz.prog T C1o :=
 C1n.cons (A40 (X0 B2y A3Y.nat)) (A8r (X0 B2y A3Y.nat) (A3j follows B6 B2y C1a A3Y.nat A3Y.ok).at_)
def K28:KC:=E9 Tryz.prog T C1o false FU 4
theorem D2C:K28.nat:=A8 A7f 4
theorem D2D:W5 Tryz.prog T K28.dir:=B4 follows B6 A7f 4
theorem C9Y (l:List V):C4 Tryz.prog T K28 (fun _ _=>none) false FU 80 (List Rs) (G2 T [119] [.l l]) (fun _=>none) 0 (fun out=>H2 T true [.d 34] out)=dsG l (fun x=>some [.d 34 x]):=by kernel_rfl
def C1p:List (Nat×E5):=(80,F6 T true [119] (gF dsg (dsr 34)))::C1o
theorem A7g:D2 Tryz.prog T C1p:=by
 refine B8 (sh:=true) (rk:=[.d 34]) (d:=4) (fu:=FU) (Lo:=(fun _ _=>none)) (ds:=[.slice (.slice (.int .u8))]) follows B6 A7f (by kernel_rfl) E3 40 (by kernel_rfl) (fun xs hd hg=>?_)
 obtain ⟨a,rfl,ha⟩:=S4 hd
 obtain ⟨l,rfl⟩:=C5H hg
 exact (C9Y l).trans (C6I ha hg _)
def K29:KC:=E9 Tryz.prog T C1p false FU 4
theorem D2E:K29.nat:=A8 A7g 4
theorem D2F:W5 Tryz.prog T K29.dir:=B4 follows B6 A7g 4
theorem C5t (l:List V):C4 Tryz.prog T K29 (fun _ _=>none) false FU 63 (List Rs) (G2 T [119] [.l l]) (fun _=>none) 0 (fun out=>H2 T true [.d 34] out)=bif dsg [.l l] then some [.d 34 (A5z (A3d (A2e l)))] else none:=by kernel_rfl
end Go.Proofs.YtadjkmffodhmbaaGreat
end
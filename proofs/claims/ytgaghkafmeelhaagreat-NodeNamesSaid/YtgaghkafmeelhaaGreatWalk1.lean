/- What functions compute, and the law run. -/
import Derived.Test.YtgaghkafmeelhaaGreatTy
import Derived.Test.YtgaghkafmeelhaaGreatVm10
import Derived.Test.YtgaghkafmeelhaaGreatVm11
import Derived.Shelf.SlMaps.Clone
import Derived.Test.YtgaghkafmeelhaaGreatProg
import Derived.RangeFuncNested
import Derived.RangeFuncBound
import Derived.RangeFuncCalls
import Derived.RangeFuncLeaves
import Derived.Shelf.Abstract
import Derived.Shelf.RegionOpen
import Derived.WalkKit
import Derived.OwnWalkIn
import Derived.TacticsInMore
import Derived.LoopNIn
import Derived.LoopIn
import Derived.LoopTactic
import Derived.Deep.WholeRow
import Derived.Maps.AppendAt
set_option linter.constructorNameAsVariable false
set_option linter.unusedVariables false
set_option linter.unusedSimpArgs false
set_option linter.unnecessarySimpa false
noncomputable section
namespace Go.Proofs.YtgaghkafmeelhaaGreat
open Go.Vm
set_option maxRecDepth 100000
set_option linter.unusedVariables false
abbrev nT (f:Nat):Nat:=C9D Tryz.prog f
abbrev cT (f i:Nat):Code:=lp (A2f Tryz.prog f) i
def C8X:List (Nat×H4):=[]
theorem A8X:P4 Tryz.prog T C8X:=B5f
def K1:KC:=A0g Tryz.prog T C8X false FU 4
theorem hK1:K1.nat:=P5 A8X 4
theorem hS1:KOK Tryz.prog T K1.dir:=Z5 follows C5 A8X 4
def B3j:C04→Vm.St
 | .m x z i w=>⟨[(0,.v 29 x),(2,.p 0 572 []),(3,.p 1 572 []),(8,.i .i64 i)],(.n (some (.box 572 (.v 572 z) false)) (.n (some (.box 572 (.v 572 w) false)) .e .e) .e),[],2,some []⟩
def C2f (R:Type) (kx:Exit→Vm.St→Option R):C9L→Option R
 | .o x z i w=>kx (.exit 0) { B3j (.m x z i w) with nx:=16 }
def B1A:Vm.St→Option C04
 | ⟨[(0,.v 29 x),(2,.p 0 572 []),(3,.p 1 572 []),(8,.i .i64 i)],(.n (some (.box 572 (.v 572 z) false)) (.n (some (.box 572 (.v 572 w) false)) .e .e) .e),[],2,some []⟩=>some (.m x z i w)
 | _=>none
theorem B4y:A6V B1A B3j:=by
 intro _ _ h
 unfold B1A at h
 split at h<;>first | (cases h;rfl) | cases h
theorem B9N:A2Q T K1 (fun _=>none) (nT 421) (cT 421 0) 0 [0,2,3,8] 16 B3j B7U C2f:=by
 intro R of x K kx
 cases x<;>kernel_rfl
def C8Y:LS:=A1t T K1 (fun _=>none) (nT 421) (cT 421 0) 0 [0,2,3,8] 16 B1A B7U C2f
theorem B3k:T8 Tryz.prog T (nT 421) 0 (cT 421 0) C8Y :=
 U5 follows C5 hK1 hS1 F7 (D2 _) B3j B4y B9N
def B3l:C05→Vm.St
 | .m z i w=>⟨[(2,.p 0 572 []),(3,.p 1 572 []),(5,.i .i64 i)],(.n (some (.box 572 (.v 572 z) false)) (.n (some (.box 572 (.v 572 w) false)) .e .e) .e),[],2,some []⟩
def C2g (R:Type) (kx:Exit→Vm.St→Option R):C9M→Option R
 | .o z i w=>kx (.exit 2) { B3l (.m z i w) with nx:=16 }
def B1B:Vm.St→Option C05
 | ⟨[(2,.p 0 572 []),(3,.p 1 572 []),(5,.i .i64 i)],(.n (some (.box 572 (.v 572 z) false)) (.n (some (.box 572 (.v 572 w) false)) .e .e) .e),[],2,some []⟩=>some (.m z i w)
 | _=>none
theorem B4z:A6V B1B B3l:=by
 intro _ _ h
 unfold B1B at h
 split at h<;>first | (cases h;rfl) | cases h
theorem B9O:A2Q T K1 (fun _=>none) (nT 421) (cT 421 1) 0 [2,3,5] 16 B3l B5i C2g:=by
 intro R of x K kx
 cases x<;>kernel_rfl
def C8Z:LS:=A1t T K1 (fun _=>none) (nT 421) (cT 421 1) 0 [2,3,5] 16 B1B B5i C2g
theorem B3m:T8 Tryz.prog T (nT 421) 0 (cT 421 1) C8Z :=
 U5 follows C5 hK1 hS1 F7 (D2 _) B3l B4z B9O
def C80:Nat→LC:=atN 0 [(3,C8Y),(8,C8Z)]
theorem B9P:A1c Tryz.prog T 421 C80:=A0y 0 (List.forall_mem_cons.2 ⟨B3k.1,List.forall_mem_cons.2 ⟨B3m.1,fun _ h=>by cases h⟩⟩) 2 (by kernel_rfl) ⟨⟨trivial,loI (s0:=C8Y) (by kernel_rfl) B3k⟩,loI (s0:=C8Z) (by kernel_rfl) B3m⟩
def Gsp:FC:=fun R xs k=>match xs with
 | [x]=>Z9 (B7U R) (A4 FU) (.m x z64 0 z64) (fun | .o _ z _ w=>Z9 (B5i R) (A4 FU) (.m z 16 w) (fun | .o _ _ w=>k [.d 572 w]))
 | _=>none
theorem C81 (R:Type) (x:V) (k:List Rs→Option R):W6 Tryz.prog T K1 C80 false FU 421 R (A6 T [29] [x]) (fun _=>none) 0 (fun out=>ob (A7 T false [.d 572] out) k)=Gsp R [x] k:=by kernel_rfl
def C82:List (Nat×H4):=(421,A5 T false [29] (Fsp 572))::C8X
theorem A8Y:P4 Tryz.prog T C82:=by
 refine A1u (sh:=false) (rk:=[.d 572]) (d:=4) (fu:=FU) (Lo:=C80) (G:=Gsp) follows C5 A8X (C1b 572) (by kernel_rfl) B9P (fun R xs k htv=>?_) (fun xs rs htv hrs=>?_)
 ·match xs,htv.len with
  | [x],_=>exact C81 R x k
 ·match xs,htv,htv.len with
  | [x],htv,_ =>
   obtain ⟨e,cs,hx⟩:=htv.head
   obtain ⟨bs,h1,h2⟩:=A51 (T:=T) (el:=5) (kd:=.u8) (by kernel_rfl) (by kernel_rfl) rfl hx
   simp only [Fsp] at hrs
   cases hl:Nat.ble 64 x.els.length with
   | false=>rw [hl] at hrs;cases hrs
   | true =>
    rw [hl] at hrs
    have hl:=D9E hl
    rw [h1,D9C] at hl
    exact (B2m h1 (B3Y h2) hl HID (fun w=>some [Rs.d 572 w])).trans hrs
def K2:KC:=A0g Tryz.prog T C82 false FU 4
theorem hK2:K2.nat:=P5 A8Y 4
theorem hS2:KOK Tryz.prog T K2.dir:=Z5 follows C5 A8Y 4
def B3n:C06→Vm.St
 | .m s z w k x i=>⟨[(2,.p 0 537 []),(4,.p 1 537 []),(5,.p 3 572 []),(6,.p 4 572 []),(7,.p 5 537 []),(18,.i .i64 i)],(.n (some (.box 537 (.v 537 s) false)) (.n (some (.box 537 (.v 537 z) false)) (.n (some (.box 572 (.v 572 w) false)) .e .e) (.n (some (.box 537 (.v 537 x) false)) .e .e)) (.n none (.n (some (.box 572 (.v 572 k) false)) .e .e) .e)),[],6,some []⟩
def C2h (R:Type) (kx:Exit→Vm.St→Option R):C9N→Option R
 | .o s z w k x i=>kx (.exit 0) { B3n (.m s z w k x i) with nx:=16 }
def B1C:Vm.St→Option C06
 | ⟨[(2,.p 0 537 []),(4,.p 1 537 []),(5,.p 3 572 []),(6,.p 4 572 []),(7,.p 5 537 []),(18,.i .i64 i)],(.n (some (.box 537 (.v 537 s) false)) (.n (some (.box 537 (.v 537 z) false)) (.n (some (.box 572 (.v 572 w) false)) .e .e) (.n (some (.box 537 (.v 537 x) false)) .e .e)) (.n none (.n (some (.box 572 (.v 572 k) false)) .e .e) .e)),[],6,some []⟩=>some (.m s z w k x i)
 | _=>none
theorem B4A:A6V B1C B3n:=by
 intro _ _ h
 unfold B1C at h
 split at h<;>first | (cases h;rfl) | cases h
theorem B9Q:A2Q T K2 (fun _=>none) (nT 391) (cT 391 0) 0 [2,4,5,6,7,18] 16 B3n B7V C2h:=by
 intro R of x K kx
 cases x<;>kernel_rfl
def C83:LS:=A1t T K2 (fun _=>none) (nT 391) (cT 391 0) 0 [2,4,5,6,7,18] 16 B1C B7V C2h
theorem B3o:T8 Tryz.prog T (nT 391) 0 (cT 391 0) C83 :=
 U5 follows C5 hK2 hS2 F7 (D2 _) B3n B4A B9Q
def B3p:C07→Vm.St
 | .m s z x i=>⟨[(2,.p 0 537 []),(4,.p 1 537 []),(7,.p 5 537 []),(98,.i .i64 i)],(.n (some (.box 537 (.v 537 s) false)) (.n (some (.box 537 (.v 537 z) false)) .e (.n (some (.box 537 (.v 537 x) false)) .e .e)) .e),[],6,some []⟩
def C2i (R:Type) (kx:Exit→Vm.St→Option R):C9O→Option R
 | .o s z x i=>kx (.exit 2) { B3p (.m s z x i) with nx:=16 }
def B1D:Vm.St→Option C07
 | ⟨[(2,.p 0 537 []),(4,.p 1 537 []),(7,.p 5 537 []),(98,.i .i64 i)],(.n (some (.box 537 (.v 537 s) false)) (.n (some (.box 537 (.v 537 z) false)) .e (.n (some (.box 537 (.v 537 x) false)) .e .e)) .e),[],6,some []⟩=>some (.m s z x i)
 | _=>none
theorem B4B:A6V B1D B3p:=by
 intro _ _ h
 unfold B1D at h
 split at h<;>first | (cases h;rfl) | cases h
theorem B9R:A2Q T K2 (fun _=>none) (nT 391) (cT 391 1) 0 [2,4,7,98] 16 B3p B2k C2i:=by
 intro R of x K kx
 cases x<;>kernel_rfl
def C84:LS:=A1t T K2 (fun _=>none) (nT 391) (cT 391 1) 0 [2,4,7,98] 16 B1D B2k C2i
theorem B3q:T8 Tryz.prog T (nT 391) 0 (cT 391 1) C84 :=
 U5 follows C5 hK2 hS2 F7 (D2 _) B3p B4B B9R
def C85:Nat→LC:=atN 0 [(3,C83),(11,C84)]
theorem B9S:A1c Tryz.prog T 391 C85:=A0y 0 (List.forall_mem_cons.2 ⟨B3o.1,List.forall_mem_cons.2 ⟨B3q.1,fun _ h=>by cases h⟩⟩) 2 (by kernel_rfl) ⟨⟨trivial,loI (s0:=C83) (by kernel_rfl) B3o⟩,loI (s0:=C84) (by kernel_rfl) B3q⟩
def Gmx:FC:=fun R xs k=>match xs with
 | [s,b]=>bif Nat.ble 64 b.els.length then Z9 (B7V R) (A4 FU) (.m s z8 (spW b) A2h s 0) (fun | .o s z _ _ x _=>Z9 (B2k R) (A4 FU) (.m s z x 0) (fun | .o s _ _ _=>k [.d 537 s])) else none
 | _=>none
theorem C86 (R:Type) (s b:V) (k:List Rs→Option R):W6 Tryz.prog T K2 C85 false FU 391 R (A6 T [537,29] [s,b]) (fun _=>none) 0 (fun out=>ob (A7 T false [.d 537] out) k)=Gmx R [s,b] k:=by kernel_rfl
def C87:List (Nat×H4):=(391,A5 T false [537,29] (Fmx 537))::C82
theorem A41:P4 Tryz.prog T C87:=by
 refine A1u (sh:=false) (rk:=[.d 537]) (d:=4) (fu:=FU) (Lo:=C85) (G:=Gmx) follows C5 A8Y (C1c 537) (by kernel_rfl) B9S (fun R xs k htv=>?_) (fun xs rs htv hrs=>?_)
 ·match xs,htv.len with
  | [s,b],_=>exact C86 R s b k
 ·match xs,htv,htv.len with
  | [s,b],htv,_ =>
   obtain ⟨e,cs,hs⟩:=htv.head
   obtain ⟨e2,cs2,hx⟩:=htv.tail.head
   obtain ⟨bs,h1,h2⟩:=A51 (T:=T) (el:=5) (kd:=.u8) (by kernel_rfl) (by kernel_rfl) rfl hx
   obtain ⟨ns,rfl,n1,n2⟩:=C9Q (T:=T) (n:=8) (el:=41) (kd:=.u32) (by kernel_rfl) (by kernel_rfl) rfl hs
   obtain ⟨s8,hs8,hok⟩:=C9U n1 n2
   rw [hs8] at hrs ⊢
   simp only [Fmx] at hrs
   cases hl:Nat.ble 64 b.els.length with
   | false=>rw [hl] at hrs;cases hrs
   | true =>
    rw [hl] at hrs
    simp only [Gmx,hl,cond_true]
    have hl:=D9E hl
    rw [h1,D9C] at hl
    exact (C1d hok h1 (B3Y h2) hl HID (fun w=>some [Rs.d 537 w])).trans hrs
def K3:KC:=A0g Tryz.prog T C87 false FU 4
theorem hK3:K3.nat:=P5 A41 4
theorem hS3:KOK Tryz.prog T K3.dir:=Z5 follows C5 A41 4
end Go.Proofs.YtgaghkafmeelhaaGreat
namespace Go.Proofs.YtgaghkafmeelhaaGreat
open Go.Vm
set_option maxRecDepth 100000
set_option linter.unusedVariables false
def B3r:C1e→Vm.St
 | .m b xs=>⟨[(0,.v 29 b),(3,.o 1 1)],(.n none (.n (some (.row 5 1 xs false false)) .e .e) .e),[],2,some []⟩
def C2j (R:Type) (kx:Exit→Vm.St→Option R):C9X→Option R
 | .o b xs=>kx (.exit 0) { B3r (.m b xs) with nx:=8 }
def B1E:Vm.St→Option C1e
 | ⟨[(0,.v 29 b),(3,.o 1 1)],(.n none (.n (some (.row 5 1 xs false false)) .e .e) .e),[],2,some []⟩=>some (.m b xs)
 | _=>none
theorem B4C:A6V B1E B3r:=by
 intro _ _ h
 unfold B1E at h
 split at h<;>first | (cases h;rfl) | cases h
theorem B9T:A2Q T K3 (fun _=>none) (nT 293) (cT 293 0) 0 [0,3] 8 B3r C1f C2j:=by
 intro R of x K kx
 cases x<;>kernel_rfl
def C88:LS:=A1t T K3 (fun _=>none) (nT 293) (cT 293 0) 0 [0,3] 8 B1E C1f C2j
theorem B3s:T8 Tryz.prog T (nT 293) 0 (cT 293 0) C88 :=
 U5 follows C5 hK3 hS3 F7 (D2 _) B3r B4C B9T
def C89:Nat→LC:=atN 0 [(2,C88)]
theorem B9U:A1c Tryz.prog T 293 C89:=A0y 0 (List.forall_mem_cons.2 ⟨B3s.1,fun _ h=>by cases h⟩) 2 (by kernel_rfl) ⟨⟨trivial,loI (s0:=C88) (by kernel_rfl) B3s⟩,loN (by kernel_rfl)⟩
theorem C9a (R:Type) (b:V) (k:List Rs→Option R):W6 Tryz.prog T K3 C89 false FU 293 R (A6 T [29] [b]) (fun _=>none) 0 (fun out=>ob (A7 T false [.r 5] out) k)=Gpd 5 R [b] k:=by kernel_rfl
def C9b:List (Nat×H4):=(293,A5 T false [29] (Fpd 5))::C87
theorem A8Z:P4 Tryz.prog T C9b:=by
 refine A1u (sh:=false) (rk:=[.r 5]) (d:=4) (fu:=FU) (Lo:=C89) (G:=Gpd 5) follows C5 A41 (C1m 5) (by kernel_rfl) B9U (fun R xs k htv=>?_) (fun xs rs htv hrs=>?_)
 ·match xs,htv.len with
  | [b],_=>exact C9a R b k
 ·match xs,htv.len with
  | [b],_=>exact C91 5 hrs
def K4:KC:=A0g Tryz.prog T C9b false FU 4
theorem hK4:K4.nat:=P5 A8Z 4
theorem hS4:KOK Tryz.prog T K4.dir:=Z5 follows C5 A8Z 4
def B3t:C1g→Vm.St
 | .m z v xs kk at_ ws i=>⟨[(2,.p 0 43 []),(3,.p 1 438 []),(4,.o 2 1),(5,.p 4 439 []),(6,.i .i64 at_),(7,.o 5 1),(8,.i .i64 i)],(.n (some (.box 43 (.v 43 z) false)) (.n (some (.box 438 (.v 438 v) false)) .e (.n (some (.row 125 1 ws false false)) .e .e)) (.n (some (.row 5 1 xs false false)) (.n (some (.box 439 (.v 439 kk) false)) .e .e) .e)),[],6,some []⟩
def C2k (R:Type) (kx:Exit→Vm.St→Option R):B7Y→Option R
 | .o z v xs kk at_ ws i=>kx (.exit 2) { B3t (.m z v xs kk at_ ws i) with nx:=16 }
def B1F:Vm.St→Option C1g
 | ⟨[(2,.p 0 43 []),(3,.p 1 438 []),(4,.o 2 1),(5,.p 4 439 []),(6,.i .i64 at_),(7,.o 5 1),(8,.i .i64 i)],(.n (some (.box 43 (.v 43 z) false)) (.n (some (.box 438 (.v 438 v) false)) .e (.n (some (.row 125 1 ws false false)) .e .e)) (.n (some (.row 5 1 xs false false)) (.n (some (.box 439 (.v 439 kk) false)) .e .e) .e)),[],6,some []⟩=>some (.m z v xs kk at_ ws i)
 | _=>none
theorem B4D:A6V B1F B3t:=by
 intro _ _ h
 unfold B1F at h
 split at h<;>first | (cases h;rfl) | cases h
theorem B9V:A2Q T K4 (fun _=>none) (nT 186) (cT 186 1) 0 [2,3,4,5,6,7,8] 16 B3t B2n C2k:=by
 intro R of x K kx
 cases x<;>kernel_rfl
def B9W:LS:=A1t T K4 (fun _=>none) (nT 186) (cT 186 1) 0 [2,3,4,5,6,7,8] 16 B1F B2n C2k
theorem B3u:T8 Tryz.prog T (nT 186) 0 (cT 186 1) B9W :=
 U5 follows C5 hK4 hS4 F7 (D2 _) B3t B4D B9V
def B3v:C1h→Vm.St
 | .m z v xs kk at_ ws x i=>⟨[(2,.p 0 43 []),(3,.p 1 438 []),(4,.o 2 1),(5,.p 4 439 []),(6,.i .i64 at_),(7,.o 5 1),(13,.p 16 438 []),(14,.i .i64 i)],(.n (some (.box 43 (.v 43 z) false)) (.n (some (.box 438 (.v 438 v) false)) .e (.n (some (.row 125 1 ws false false)) .e .e)) (.n (some (.row 5 1 xs false false)) (.n (some (.box 439 (.v 439 kk) false)) (.n none (.n (some (.box 438 (.v 438 x) false)) .e .e) .e) .e) .e)),[],17,some []⟩
def C2l (R:Type) (kx:Exit→Vm.St→Option R):C1i→Option R
 | .o z v xs kk at_ ws x i=>kx (.exit 6) { B3v (.m z v xs kk at_ ws x i) with nx:=32 }
def B1G:Vm.St→Option C1h
 | ⟨[(2,.p 0 43 []),(3,.p 1 438 []),(4,.o 2 1),(5,.p 4 439 []),(6,.i .i64 at_),(7,.o 5 1),(13,.p 16 438 []),(14,.i .i64 i)],(.n (some (.box 43 (.v 43 z) false)) (.n (some (.box 438 (.v 438 v) false)) .e (.n (some (.row 125 1 ws false false)) .e .e)) (.n (some (.row 5 1 xs false false)) (.n (some (.box 439 (.v 439 kk) false)) (.n none (.n (some (.box 438 (.v 438 x) false)) .e .e) .e) .e) .e)),[],17,some []⟩=>some (.m z v xs kk at_ ws x i)
 | _=>none
theorem B4E:A6V B1G B3v:=by
 intro _ _ h
 unfold B1G at h
 split at h<;>first | (cases h;rfl) | cases h
theorem B9X:A2Q T K4 (fun _=>none) (nT 186) (cT 186 3) 0 [2,3,4,5,6,7,13,14] 32 B3v B7Z C2l:=by
 intro R of x K kx
 cases x<;>kernel_rfl
def B9Y:LS:=A1t T K4 (fun _=>none) (nT 186) (cT 186 3) 0 [2,3,4,5,6,7,13,14] 32 B1G B7Z C2l
theorem B3w:T8 Tryz.prog T (nT 186) 0 (cT 186 3) B9Y :=
 U5 follows C5 hK4 hS4 F7 (D2 _) B3v B4E B9X
def B3x:C1j→Vm.St
 | .m z v xs kk at_=>⟨[(2,.p 0 43 []),(3,.p 1 438 []),(4,.o 2 1),(5,.p 4 439 []),(6,.i .i64 at_)],(.n (some (.box 43 (.v 43 z) false)) (.n (some (.box 438 (.v 438 v) false)) .e .e) (.n (some (.row 5 1 xs false false)) (.n (some (.box 439 (.v 439 kk) false)) .e .e) .e)),[],5,some []⟩
def C2m (R:Type) (kx:Exit→Vm.St→Option R):C9Y→Option R
 | .o z v xs kk at_=>kx (.exit 0) { B3x (.m z v xs kk at_) with nx:=64 }
def B1H:Vm.St→Option C1j
 | ⟨[(2,.p 0 43 []),(3,.p 1 438 []),(4,.o 2 1),(5,.p 4 439 []),(6,.i .i64 at_)],(.n (some (.box 43 (.v 43 z) false)) (.n (some (.box 438 (.v 438 v) false)) .e .e) (.n (some (.row 5 1 xs false false)) (.n (some (.box 439 (.v 439 kk) false)) .e .e) .e)),[],5,some []⟩=>some (.m z v xs kk at_)
 | _=>none
theorem B4F:A6V B1H B3x:=by
 intro _ _ h
 unfold B1H at h
 split at h<;>first | (cases h;rfl) | cases h
theorem B9Z:A2Q T K4 (loT [(9,B9W),(23,B9Y)]) (nT 186) (cT 186 0) 0 [2,3,4,5,6] 64 B3x C1k C2m:=by
 intro R of x K kx
 cases x<;>kernel_rfl
def C9c:LS:=A1t T K4 (loT [(9,B9W),(23,B9Y)]) (nT 186) (cT 186 0) 0 [2,3,4,5,6] 64 B1H C1k C2m
theorem B3y:T8 Tryz.prog T (nT 186) 0 (cT 186 0) C9c :=
 U5 follows C5 hK4 hS4 (B3W (List.forall_mem_cons.2 ⟨B3u.1,List.forall_mem_cons.2 ⟨B3w.1,fun _ h=>by cases h⟩⟩)) (A5X 5 (by kernel_rfl) ⟨⟨⟨⟨⟨trivial,loI (s0:=B9W) (by kernel_rfl) ((show lp (lp (A2f Tryz.prog 186) 0) 0=lp (A2f Tryz.prog 186) 1 from by kernel_rfl) ▸ B3u)⟩,loN (by kernel_rfl)⟩,loI (s0:=B9Y) (by kernel_rfl) ((show lp (lp (A2f Tryz.prog 186) 0) 2=lp (A2f Tryz.prog 186) 3 from by kernel_rfl) ▸ B3w)⟩,loN (by kernel_rfl)⟩,loN (by kernel_rfl)⟩) B3x B4F B9Z
def C9d:Nat→LC:=atN 0 [(5,C9c)]
theorem B90:A1c Tryz.prog T 186 C9d:=A0y 0 (List.forall_mem_cons.2 ⟨B3y.1,fun _ h=>by cases h⟩) 8 (by kernel_rfl) ⟨⟨⟨⟨⟨⟨⟨⟨trivial,loI (s0:=C9c) (by kernel_rfl) B3y⟩,loN (by kernel_rfl)⟩,loN (by kernel_rfl)⟩,loN (by kernel_rfl)⟩,loN (by kernel_rfl)⟩,loN (by kernel_rfl)⟩,loN (by kernel_rfl)⟩,loN (by kernel_rfl)⟩
theorem C9e (R:Type) (b:V) (k:List Rs→Option R):W6 Tryz.prog T K4 C9d false FU 186 R (A6 T [29] [b]) (fun _=>none) 0 (fun out=>ob (A7 T false [.d 43] out) k)=Gsm 43 R [b] k:=by kernel_rfl
def C9f:List (Nat×H4):=(186,A5 T false [29] (Fsm 43))::C9b
theorem A3r:P4 Tryz.prog T C9f:=by
 refine A1u (sh:=false) (rk:=[.d 43]) (d:=4) (fu:=FU) (Lo:=C9d) (G:=Gsm 43) follows C5 A8Z (C0A 43) (by kernel_rfl) B90 (fun R xs k htv=>?_) (fun xs rs htv hrs=>?_)
 ·match xs,htv.len with
  | [b],_=>exact C9e R b k
 ·match xs,htv,htv.len with
  | [b],htv,_ =>
   obtain ⟨e,cs,hx⟩:=htv.head
   obtain ⟨bs,h1,h2⟩:=A51 (T:=T) (el:=5) (kd:=.u8) (by kernel_rfl) (by kernel_rfl) rfl hx
   exact C9v 43 h1 (B3Y h2) hrs
def K5:KC:=A0g Tryz.prog T C9f false FU 4
theorem hK5:K5.nat:=P5 A3r 4
theorem hS5:KOK Tryz.prog T K5.dir:=Z5 follows C5 A3r 4
end Go.Proofs.YtgaghkafmeelhaaGreat
namespace Go.Proofs.YtgaghkafmeelhaaGreat
open Go.Vm
set_option maxRecDepth 100000
set_option linter.unusedVariables false
def B91:PAd→Vm.St
 | .m a b xs c i=>⟨[(0,.v 106 a),(1,.v 106 b),(5,.o 1 1),(6,.i .u64 c),(7,.i .i64 i)],(.n none (.n (some (.row 125 1 xs false false)) .e .e) .e),[],2,some []⟩
def D3R (R:Type) (kx:Exit→Vm.St→Option R):QAd→Option R
 | .o a b xs c i=>kx (.exit 0) { B91 (.m a b xs c i) with nx:=8 }
def B6L:Vm.St→Option PAd
 | ⟨[(0,.v 106 a),(1,.v 106 b),(5,.o 1 1),(6,.i .u64 c),(7,.i .i64 i)],(.n none (.n (some (.row 125 1 xs false false)) .e .e) .e),[],2,some []⟩=>some (.m a b xs c i)
 | _=>none
theorem B6M:A6V B6L B91:=by
 intro _ _ h
 unfold B6L at h
 split at h<;>first | (cases h;rfl) | cases h
theorem C9g:A2Q T K5 (fun _=>none) (nT 92) (cT 92 0) 0 [0,1,5,6,7] 8 B91 BAd D3R:=by
 intro R of x K kx
 cases x<;>kernel_rfl
def HAd:LS:=A1t T K5 (fun _=>none) (nT 92) (cT 92 0) 0 [0,1,5,6,7] 8 B6L BAd D3R
theorem B6N:T8 Tryz.prog T (nT 92) 0 (cT 92 0) HAd :=
 U5 follows C5 hK5 hS5 F7 (D2 _) B91 B6M C9g
def C9h:Nat→LC:=atN 0 [(4,HAd)]
theorem B92:A1c Tryz.prog T 92 C9h:=A0y 0 (List.forall_mem_cons.2 ⟨B6N.1,fun _ h=>by cases h⟩) 1 (by kernel_rfl) ⟨trivial,loI (s0:=HAd) (by kernel_rfl) B6N⟩
theorem C9i (R:Type) (a b:V) (k:List Rs→Option R):W6 Tryz.prog T K5 C9h false FU 92 R (A6 T [106,106] [a,b]) (fun _=>none) 0 (fun out=>ob (A7 T false [.r 125] out) k)=Gad 125 R [a,b] k:=by kernel_rfl
def D3S:List (Nat×H4):=(92,A5 T false [106,106] (Fad 125))::C9f
theorem B93:P4 Tryz.prog T D3S:=by
 refine A1u (sh:=false) (rk:=[.r 125]) (d:=4) (fu:=FU) (Lo:=C9h) (G:=Gad 125) follows C5 A3r (C0N 125) (by kernel_rfl) B92 (fun R xs k htv=>?_) (fun xs rs htv hrs=>C9x 125 hrs)
 match xs,htv.len with
 | [a,b],_=>exact C9i R a b k
def B6O:PCp→Vm.St
 | .m a b r i=>⟨[(0,.v 106 a),(1,.v 106 b),(4,.i .i64 r),(5,.i .i64 i)],.e,[],0,some []⟩
def D3T (R:Type) (kx:Exit→Vm.St→Option R):QCp→Option R
 | .r a b r i=>kx (.ret) { B6O (.m a b r i) with nx:=8 }
 | .o a b r i=>kx (.exit 0) { B6O (.m a b r i) with nx:=8 }
def B6P:Vm.St→Option PCp
 | ⟨[(0,.v 106 a),(1,.v 106 b),(4,.i .i64 r),(5,.i .i64 i)],.e,[],0,some []⟩=>some (.m a b r i)
 | _=>none
theorem B6Q:A6V B6P B6O:=by
 intro _ _ h
 unfold B6P at h
 split at h<;>first | (cases h;rfl) | cases h
theorem C9j:A2Q T K5 (fun _=>none) (nT 42) (cT 42 0) 0 [0,1,4,5] 8 B6O BCp D3T:=by
 intro R of x K kx
 cases x<;>kernel_rfl
def HCp:LS:=A1t T K5 (fun _=>none) (nT 42) (cT 42 0) 0 [0,1,4,5] 8 B6P BCp D3T
theorem B6R:T8 Tryz.prog T (nT 42) 0 (cT 42 0) HCp :=
 U5 follows C5 hK5 hS5 F7 (D2 _) B6O B6Q C9j
def C9k:Nat→LC:=atN 0 [(2,HCp)]
theorem B94:A1c Tryz.prog T 42 C9k:=A0y 0 (List.forall_mem_cons.2 ⟨B6R.1,fun _ h=>by cases h⟩) 1 (by kernel_rfl) ⟨trivial,loI (s0:=HCp) (by kernel_rfl) B6R⟩
theorem C9l (R:Type) (a b:V) (k:List Rs→Option R):W6 Tryz.prog T K5 C9k false FU 42 R (A6 T [106,106] [a,b]) (fun _=>none) 0 (fun out=>ob (A7 T false [.d 3] out) k)=Gcp 3 R [a,b] k:=by kernel_rfl
def C9m:List (Nat×H4):=(42,A5 T false [106,106] (Fcp 3))::D3S
theorem A3s:P4 Tryz.prog T C9m:=by
 have h:=A1u (sh:=false) (rk:=[.d 3]) (d:=4) (fu:=FU) (Lo:=C9k) (G:=Gcp 3) follows C5 A3r (C0P 3) (by kernel_rfl) B94 (fun R xs k htv=>(match xs,htv.len with
  | [a,b],_=>C9l R a b k)) (fun xs rs htv hrs=>C9y 3 hrs)
 exact B93.cons (h _ _ (List.mem_cons_self ..)).1 (h _ _ (List.mem_cons_self ..)).2
def K7:KC:=A0g Tryz.prog T C9m false FU 4
theorem hK7:K7.nat:=P5 A3s 4
theorem hS7:KOK Tryz.prog T K7.dir:=Z5 follows C5 A3s 4
end Go.Proofs.YtgaghkafmeelhaaGreat
namespace Go.Proofs.YtgaghkafmeelhaaGreat
open Go.Vm Go.Shelf Go.Proofs
set_option maxRecDepth 100000
set_option linter.unusedVariables false
def Tryz.cloneM_ren:Go.Shelf.Ren:=⟨fun | 5=>237 | 7=>322 | n=>n,fun | 23=>131 | 25=>43 | 3=>48 | 4=>4 | 20=>20 | n=>n,fun | n=>n⟩
theorem Tryz.cloneM:Go.Proofs.SlLaysW.n5 Tryz.prog Tryz.cloneM_ren:={
 mixed:=by kernel_rfl
 f5:=⟨Tryz.f237.name,by decide,Tryz.func237.trans (congrArg some (by kernel_rfl))⟩
 f7:=Tryz.func322.trans (congrArg some (by kernel_rfl))
 t4:=Tryz.underlying4
 a4:=Tryz.isAgg4
 z4:=Tryz.sizeOf4
 v4:=Tryz.zeroValue4
 t20:=Tryz.underlying20
 a20:=Tryz.isAgg20
 z20:=Tryz.sizeOf20
 v20:=Tryz.zeroValue20
 t23:=Tryz.underlying131
 a23:=Tryz.isAgg131
 z23:=Tryz.sizeOf131
 v23:=Tryz.zeroValue131 }
def Tryz.cloneM2_ren:Go.Shelf.Ren:=⟨fun | 5=>238 | 7=>322 | n=>n,fun | 23=>132 | 25=>43 | 3=>179 | 4=>4 | 20=>20 | n=>n,fun | n=>n⟩
theorem Tryz.cloneM2:Go.Proofs.SlLaysW.n5 Tryz.prog Tryz.cloneM2_ren:={
 mixed:=by kernel_rfl
 f5:=⟨Tryz.f238.name,by decide,Tryz.func238.trans (congrArg some (by kernel_rfl))⟩
 f7:=Tryz.func322.trans (congrArg some (by kernel_rfl))
 t4:=Tryz.underlying4
 a4:=Tryz.isAgg4
 z4:=Tryz.sizeOf4
 v4:=Tryz.zeroValue4
 t20:=Tryz.underlying20
 a20:=Tryz.isAgg20
 z20:=Tryz.sizeOf20
 v20:=Tryz.zeroValue20
 t23:=Tryz.underlying132
 a23:=Tryz.isAgg132
 z23:=Tryz.sizeOf132
 v23:=Tryz.zeroValue132 }
def Tryz.cloneM3_ren:Go.Shelf.Ren:=⟨fun | 5=>321 | 7=>322 | n=>n,fun | 23=>227 | 25=>43 | 3=>225 | 4=>4 | 20=>20 | n=>n,fun | n=>n⟩
theorem Tryz.cloneM3:Go.Proofs.SlLaysW.n5 Tryz.prog Tryz.cloneM3_ren:={
 mixed:=by kernel_rfl
 f5:=⟨Tryz.f321.name,by decide,Tryz.func321.trans (congrArg some (by kernel_rfl))⟩
 f7:=Tryz.func322.trans (congrArg some (by kernel_rfl))
 t4:=Tryz.underlying4
 a4:=Tryz.isAgg4
 z4:=Tryz.sizeOf4
 v4:=Tryz.zeroValue4
 t20:=Tryz.underlying20
 a20:=Tryz.isAgg20
 z20:=Tryz.sizeOf20
 v20:=Tryz.zeroValue20
 t23:=Tryz.underlying227
 a23:=Tryz.isAgg227
 z23:=Tryz.sizeOf227
 v23:=Tryz.zeroValue227 }
def Tryz.cloneM4_ren:Go.Shelf.Ren:=⟨fun | 5=>341 | 7=>322 | n=>n,fun | 23=>412 | 25=>86 | 3=>184 | 4=>4 | 20=>20 | n=>n,fun | n=>n⟩
theorem Tryz.cloneM4:Go.Proofs.SlLaysW.n5 Tryz.prog Tryz.cloneM4_ren:={
 mixed:=by kernel_rfl
 f5:=⟨Tryz.f341.name,by decide,Tryz.func341.trans (congrArg some (by kernel_rfl))⟩
 f7:=Tryz.func322.trans (congrArg some (by kernel_rfl))
 t4:=Tryz.underlying4
 a4:=Tryz.isAgg4
 z4:=Tryz.sizeOf4
 v4:=Tryz.zeroValue4
 t20:=Tryz.underlying20
 a20:=Tryz.isAgg20
 z20:=Tryz.sizeOf20
 v20:=Tryz.zeroValue20
 t23:=Tryz.underlying412
 a23:=Tryz.isAgg412
 z23:=Tryz.sizeOf412
 v23:=Tryz.zeroValue412 }
theorem B95:A25 Tryz.prog 237:=fun b es clock w hb=>AnyW.maps_Clone Tryz.cloneM b es clock w hb
theorem B6S:B2 Tryz.prog T 237 Y5:=A1E B95 (fun args w=>enters_of Tryz.func237 (by kernel_rfl) rfl args w)
theorem B96:A25 Tryz.prog 238:=fun b es clock w hb=>AnyW.maps_Clone Tryz.cloneM2 b es clock w hb
theorem B6T:B2 Tryz.prog T 238 Y5:=A1E B96 (fun args w=>enters_of Tryz.func238 (by kernel_rfl) rfl args w)
theorem B97:A25 Tryz.prog 321:=fun b es clock w hb=>AnyW.maps_Clone Tryz.cloneM3 b es clock w hb
theorem B6U:B2 Tryz.prog T 321 Y5:=A1E B97 (fun args w=>enters_of Tryz.func321 (by kernel_rfl) rfl args w)
theorem B98:A25 Tryz.prog 341:=fun b es clock w hb=>AnyW.maps_Clone Tryz.cloneM4 b es clock w hb
theorem B6V:B2 Tryz.prog T 341 Y5:=A1E B98 (fun args w=>enters_of Tryz.func341 (by kernel_rfl) rfl args w)
end Go.Proofs.YtgaghkafmeelhaaGreat
namespace Go.Proofs.YtgaghkafmeelhaaGreat
open Go.RowKit Go.Shelf Go.Vm
open Go.ChangeMaps (setBlock)
set_option linter.unusedVariables false
attribute [local go_sem] Oper.semAt_some
abbrev A5w:Array Value:=#[.int .u8 0,.int .u8 0,.int .u8 0,.int .u8 0,.int .u8 0,.int .u8 0,.int .u8 0,.int .u8 0,.int .u8 0,.int .u8 0,.int .u8 0,.int .u8 0,.int .u8 0,.int .u8 0,.int .u8 0,.int .u8 0,.int .u8 0,.int .u8 0,.int .u8 0,.int .u8 0,.int .u8 0,.int .u8 0,.int .u8 0,.int .u8 0,.int .u8 0,.int .u8 0,.int .u8 0,.int .u8 0,.int .u8 0,.int .u8 0,.int .u8 0,.int .u8 0,.int .u32 0]
abbrev J9 (ms:Array MapEntry):={ m:MapEntry // m∈ms.toList }
def R86 (P:Program):Prop:=(∀ w,(isAgg 86).run P w=.ok true w)∧(∀ w,(Go.sizeOf 86).run P w=.ok 33 w)
set_option maxRecDepth 100000 in
set_option maxHeartbeats 1000000 in
theorem D3U {P:Program} (mixed:P.follows .mixedOrders=true) (f420:P.funcs[420]? = some Tryz.f420) (a412:∀ w,(isAgg 412).run P w=.ok false w) (z412:∀ w,(Go.sizeOf 412).run P w=.ok 1 w) (v86:∀ w,(zeroValue 86).run P w=.ok (.agg A5w) w) (r86:R86 P) (i86:(P.info? 86).map (·.size)=some 33) (t412:P.underlying 412=some (.map 86 184)) (u412:∀ w,(Go.underlying 412).run P w=.ok (.map 86 184) w) (F:Fence) (n:Nat) (h420:F.fn 420) (hro:F.round=none) (hn:1≤n) (l Bm bm clock:Nat) (ms:Array MapEntry) (hst:StB ms clock) (hks:∀ m∈ms.toList,∃ cs,m.key=.agg cs∧cs.size=33∧cs.all (·.oneCell')=true) (J Jx:List (J9 ms)→World→Prop)
  (hY:∀ pre (x:J9 ms) W,J pre W→pre.length < ms.size→YieldAt F (n - 1) P l #[x.1.key] W fun e W'=>(e=.returned (.bool true)∧J (pre++[x]) W'∧KeepsWalks W W')∨(e=.returned (.bool false)∧Jx (pre++[x]) W'))
  (W:World) (hJ:AbidesFrom W.heap.size J) (hm:W.cell? ⟨Bm,0,none⟩=some (.map (some bm))) (hb:W.heap[bm]? = some (.map ms clock)) (h0:J [] W) :
  CallsIn F n P 420 #[.func (.yield l) #[] #[],.pointer (some ⟨Bm,0,none⟩)] W fun e W'=>(∃ v,e=.returned v)∧((∃ xs:List (J9 ms),(xs.map Subtype.val).Perm ms.toList∧J xs W')∨(∃ pre,Jx pre W')):=by
 have hrg:=run_range_map (P:=P) W 412 _ _ bm ms clock t412 hb
 have hbm:bm < W.heap.size:=(Array.getElem?_eq_some_iff.1 hb).1
 refine callsIn_of_wp f420 rfl h420 ?_ hro
 simp only [Tryz.ntmps420,List.size_toArray,D9G,List.length_nil,Nat.reduceAdd,Nat.reduceSub,Array.replicate_succ,Array.replicate_zero,List.push_toArray,List.append_toArray,List.nil_append,List.cons_append]
 gi_wp2
 gi_loopw [3] (fun _ wr=>∃ (seen:Array Nat) (xs:List (J9 ms)),wr.heap[W.heap.size]? = some (.mapIter (some bm) clock seen clock)∧wr.heap[bm]? = some (.map ms clock)∧(xs.map Subtype.val).Perm (ms.toList.filter fun m=>seen.toList.contains m.born)∧J xs wr) (fun _ wr=>(leftOf ms (wr.iterSeen W.heap.size)).size)
 case atStart =>
  refine ⟨#[],[],heap_alloc_new _ _,(heap_alloc_old _ _ hbm).trans hb,?_,hJ [] W _ none h0 (World.grownBy_alloc W _ none) (fun r e=>by cases e)⟩
  rw [List.filter_eq_nil_iff.2 (fun m _=>by simp)]
  exact List.Perm.refl _
 case round =>
  obtain ⟨seen,xs,hit,hb1,hse,hJx⟩:=hrel
  rcases run_next_at (P:=P) wr 0 W.heap.size bm clock clock seen ms clock hit hb1 hst.1 (Nat.le_refl _) with ⟨h0,hrun⟩ | ⟨e,he,w1,hw1,hrun⟩
  ·have hnx:∀ ty,(Instr.next (.pointer (some ⟨W.heap.size,0,none⟩)) false ty).run P wr=_:=fun _=>hrun
   gi_wp2
   go_end0
   refine ⟨⟨_,rfl⟩,.inl ⟨xs,?_,hJx⟩⟩
   rwa [List.filter_eq_self.2 (fun m hm=>List.contains_iff_mem.2 (by have:=all_seen ms seen h0 m hm;simpa using this))] at hse
  ·have hnx:∀ ty,(Instr.next (.pointer (some ⟨W.heap.size,0,none⟩)) false ty).run P wr=_:=fun _=>hrun
   generalize hw2:setBlock w1 W.heap.size (.mapIter (some bm) clock (seen.push e.born) clock)=w2 at hnx
   have hw1h:w1.heap=wr.heap:=by rcases hw1 with rfl | rfl<;>rfl
   have hwr:W.heap.size < wr.heap.size:=(Array.getElem?_eq_some_iff.1 hit).1
   have hsz2:w2.heap.size=wr.heap.size:=by rw [← hw2,← hw1h];simp [setBlock]
   have hit2:w2.heap[W.heap.size]? = some (.mapIter (some bm) clock (seen.push e.born) clock):=by
    rw [← hw2];simp [setBlock,hw1h,hwr]
   have hne2:∀ k,k≠W.heap.size→w2.heap[k]? = wr.heap[k]? := fun k hk=>by rw [← hw2,← hw1h];simp [setBlock,Ne.symm hk]
   have hb2:w2.heap[bm]? = some (.map ms clock):=(hne2 bm (by omega)).trans hb1
   have hg2:wr.grownBy w2 (some W.heap.size):=by
    refine ⟨?_,?_,?_,by rw [hsz2];exact Nat.le_refl _,fun k hk hne=>hne2 k (fun q=>hne (by rw [q]))⟩<;>(rw [← hw2];rcases hw1 with rfl | rfl<;>rfl)
   have hlt2:W.heap.size < w2.heap.size:=by omega
   have hbm2:bm < w2.heap.size:=(Array.getElem?_eq_some_iff.1 hb2).1
   clear hsz2 hne2 hw1h hw2 hrun
   have hen:=run_entry_at (P:=P) w2 W.heap.size bm clock seen ms clock e hit2 hb2 (mem_left he).1 hst.2
   obtain ⟨cs,hk,hc33,hone⟩:∃ cs,e.key=.agg cs∧cs.size=33∧cs.all (·.oneCell')=true:=hks e (mem_left he).1
   rw [hk] at hen
   have hnb:e.born ∉ seen.toList:=by
    have:=(mem_left he).2
    simpa using this
   have hf1:=A5T (fun m:MapEntry=>m.born) (fun m=>seen.toList.contains m.born) (fun m=>(seen.push e.born).toList.contains m.born) ms.toList e hst.2 (mem_left he).1 (by
     cases hc:seen.toList.contains e.born with
     | false=>rfl
     | true=>exact absurd (List.contains_iff_mem.1 hc) hnb) (fun y _=>by
     rw [Bool.eq_iff_iff]
     simp)
   have hxs:xs.length < ms.size:=by
    have h1:=hse.length_eq
    have h2:=hf1.length_eq
    have h3:=List.length_filter_le (fun m:MapEntry=>(seen.push e.born).toList.contains m.born) ms.toList
    rw [D9C] at h1
    simp only [D9G,D9F] at h2 h3
    omega
   have hJ2:J xs w2:=hJ xs wr w2 _ hJx hg2 (fun r q=>by cases q;exact ⟨Nat.le_refl _,_,hit,rfl⟩)
   have hJ3:J xs (w2.alloc (.cells cs 86)):=hJ xs w2 _ none hJ2 (World.grownBy_alloc w2 _ none) (fun r q=>by cases q)
   obtain ⟨fn,tmps,assign,body,hy,hR⟩:=hY xs ⟨e,(mem_left he).1⟩ _ hJ3 hxs
   dsimp only at hy
   rw [hk] at hy
   gi_wp2
   ·have hsto:=run_storeCells_new (P:=P) w2 86 A5w cs (by rw [hc33];exact i86) (by rw [hc33];rfl) hone
    simp only [r86.2,Result.andThen,↓reduceIte,hsto]
    rw [Oper.uponIn_skip]
    clear hsto
    gi_wp2
    have hlod:=run_loadCellsFrom_new (P:=P) w2 86 cs 33 hc33
    simp only [r86.1,r86.2,Result.andThen,↓reduceIte,hlod]
    rw [Oper.uponIn_value]
    clear hlod
    gi_wp2
    refine hR.mono ?_
    rintro e3 W3 (⟨rfl,hJ3,hk3⟩ | ⟨rfl,hJx3⟩)
    ·have hit3:W3.heap[W.heap.size]? = some (.mapIter (some bm) clock (seen.push e.born) clock):=hk3.same _ _ ((heap_alloc_old _ _ hlt2).trans hit2) rfl
     have hb3:W3.heap[bm]? = some (.map ms clock):=hk3.same _ _ ((heap_alloc_old _ _ hbm2).trans hb2) rfl
     gi_wp2
     go_roundw
     case rel=>exact ⟨seen.push e.born,xs++[⟨e,(mem_left he).1⟩],hit3,hb3,by
      rw [List.map_append,List.map_cons,List.map_nil]
      exact (List.perm_append_comm.trans (List.Perm.cons _ hse)).trans hf1.symm,hJ3⟩
     case measure =>
      have e1:W3.iterSeen W.heap.size=seen.push e.born:=by unfold World.iterSeen;rw [hit3]
      have e2:wr.iterSeen W.heap.size=seen:=by unfold World.iterSeen;rw [hit]
      rw [e1,e2]
      exact left_shrinks ms seen e he
    ·gi_wp2
     refine bodyPost_ret (results_none rfl _ _ _) rfl ?_
     exact ⟨⟨_,rfl⟩,.inr ⟨_,hJx3⟩⟩
/-! ### Operations whose run is told -/
section
variable {P:Program} {F:Fence} {n:Nat} {ops:Array Oper} {rest:List Oper} {o:Oper} {a:Act} {Q:Go.Exit→Act→World→Prop} {w w':World} {v:Value}
theorem A6K (hg:o.guard=none) (t:TypeId) (x:Operand) (hop:o.op=Op.load t x) (hrun:(Instr.loadAt t (a.eval x)).run P w=.ok v w') (hK:wpListIn F n P ops Q rest (a.put o.dst v) w'):wpListIn F n P ops Q (o::rest) a w:=by
 refine wpListIn_plain hg fun K hK'=>?_
 unfold Oper.wpIn
 refine ⟨by simp [Oper.about,hop],?_⟩
 rw [Oper.semAt_plain F _ _ (by rw [hop];intro c hc;cases hc)]
 simp [execOp,hop,hrun,Result.andThen]
 exact hK' _ _ hK
theorem B6W (hg:o.guard=none) (t:TypeId) (x y:Operand) (hop:o.op=Op.store t x y) (hrun:(Instr.storeAt t (a.eval x) (a.eval y)).run P w=.ok () w') (hK:wpListIn F n P ops Q rest (a.put o.dst undef) w'):wpListIn F n P ops Q (o::rest) a w:=by
 refine wpListIn_plain hg fun K hK'=>?_
 unfold Oper.wpIn
 refine ⟨by simp [Oper.about,hop],?_⟩
 rw [Oper.semAt_plain F _ _ (by rw [hop];intro c hc;cases hc)]
 simp [execOp,hop,hrun,Result.andThen]
 exact hK' _ _ hK
theorem A2a (hg:o.guard=none) (t:TypeId) (x:Operand) (hop:o.op=Op.buildSlice t 1 #[(0,x)]) (hrun:(Instr.buildSlice t 1 #[(0,a.eval x)]).run P w=.ok v w') (hK:wpListIn F n P ops Q rest (a.put o.dst v) w'):wpListIn F n P ops Q (o::rest) a w:=by
 refine wpListIn_plain hg fun K hK'=>?_
 unfold Oper.wpIn
 refine ⟨by simp [Oper.about,hop],?_⟩
 rw [Oper.semAt_plain F _ _ (by rw [hop];intro c hc;cases hc)]
 simp [execOp,hop,hrun,Result.andThen]
 exact hK' _ _ hK
end
def A99 (m:MapEntry):Array Value:=m.key.cells
def cellsOf {ms:Array MapEntry} (xs:List (J9 ms)):List Value:=xs.flatMap fun m=>(A99 m.1).toList
def D9d (p:Prop):Prop:=p
theorem B0a {p:Prop} (h:D9d p):p:=h
theorem B99 {P:Program} (t530:P.underlying 530=some (.slice 86)) (r86:R86 P) {z:Array Value} (hz:z.size=33) (v86:∀ w,(zeroValue 86).run P w=.ok (.agg z) w) (W:World) {cs:Array Value} (hc33:cs.size=33) :
  (Instr.buildSlice 530 1 #[(0,.agg cs)]).run P W=.ok (.slice (some ⟨W.heap.size,0,none⟩) 1 1) (W.alloc (.cells cs 86)):=by
 obtain ⟨cells',g1,g2⟩:=A5J (place:=fun i=>some (i * 33,33)) (i:=0) (off:=0) (size:=33) (cells:=(Array.range (1 * 33)).map (z[· % z.size]!)) (v:=.agg cs) (rest:=[]) rfl hc33 (by simp)
 have e:cells'=cs:=by
  have:cells'.toList=cs.toList:=by
   rw [g2]
   simp [Value.cells]
  exact Array.toList_inj.1 this
 subst e
 have g1:Instr.fill (fun i=>some (i * 33,33)) ((Array.range (1 * 33)).map (z[· % z.size]!)) [(0,.agg cells')]=some cells':=g1
 have hu:=A3 (w:=W) t530
 have hs:=r86.2 W
 have hv:=v86 W
 clear r86 v86
 simp only [Instr.buildSlice,Sem.run_bind,hu,Result.andThen_ok,hs,hv,Sem.run_pure,Value.cells]
 rw [if_neg (by decide),if_neg (by decide)]
 simp only [Sem.run_bind,Sem.run_pure,Result.andThen_ok,hv,Value.cells,g1,newRow]
 rfl
theorem A6L {W W':World} (h:KeepsOthers W W') (hs:W.heap.size≤W'.heap.size):KeepsWalks W W':=⟨hs,fun k o hk ho=>h.same k o hk (Obj.not_cells_of_walk ho)⟩
set_option maxRecDepth 100000 in
set_option maxHeartbeats 1000000 in
theorem C0a {P:Program} (mixed:P.follows .mixedOrders=true) (f420:P.funcs[420]? = some Tryz.f420) (f445:P.funcs[445]? = some Tryz.f445) (e420:∀ args w,(callFunc 420 args).run P w=.ok (.enter 420 args) w)
  (a412:∀ w,(isAgg 412).run P w=.ok false w) (z412:∀ w,(Go.sizeOf 412).run P w=.ok 1 w) (v86:∀ w,(zeroValue 86).run P w=.ok (.agg A5w) w) (r86:R86 P) (i86:(P.info? 86).map (·.size)=some 33) (t412:P.underlying 412=some (.map 86 184)) (u412:∀ w,(Go.underlying 412).run P w=.ok (.map 86 184) w)
  (a530:∀ w,(isAgg 530).run P w=.ok false w) (z530:∀ w,(Go.sizeOf 530).run P w=.ok 1 w) (t530:P.underlying 530=some (.slice 86)) (t86:∃ fs,P.underlying 86=some (.struct fs)) (j86:(P.info? 86).map (fun i=>(i.zero,i.size,i.bytes))=some (some (.agg A5w),33,36))
  (F:Fence) (n:Nat) (h420:F.fn 420) (h445:F.fn 445) (hro:F.round=none) (hn:2≤n) (Bm bm clock:Nat) (ms:Array MapEntry) (hst:StB ms clock) (hks:∀ m∈ms.toList,∃ cs,m.key=.agg cs∧cs.size=33∧cs.all (·.oneCell')=true) (hlen:ms.size≤1000000)
  (w:World) (hm:w.cell? ⟨Bm,0,none⟩=some (.map (some bm))) (hb:w.heap[bm]? = some (.map ms clock)) :
  CallsIn F n P 445 #[.slice none 0 0,.func (.func 420) #[] #[.pointer (some ⟨Bm,0,none⟩)]] w fun e w'=>∃ (v:Value) (xs:List (J9 ms)),e=.returned v∧(xs.map Subtype.val).Perm ms.toList∧w'.ownsRow w.heap.size 86 33 v xs.length (cellsOf xs)∧(v=.slice none 0 0↔xs=[])∧Below w.heap.size w w':=by
 have h1:1≤n:=by omega
 have hBm:Bm < w.heap.size:=by
  unfold World.cell? at hm
  cases hq:w.heap[Bm]? with
  | none=>simp [hq] at hm
  | some o=>exact (Array.getElem?_eq_some_iff.1 hq).1
 have hbm:bm < w.heap.size:=(Array.getElem?_eq_some_iff.1 hb).1
 obtain ⟨fs86,t86⟩:=t86
 obtain ⟨i0,hi,hz0,hz1,hz2⟩:=info_parts j86
 refine callsIn_of_wp_marks f445 rfl h445 ?_ hro
 simp only [Tryz.ntmps445,List.size_toArray,D9G,List.length_nil,Nat.reduceAdd,Nat.reduceSub,Array.replicate_succ,Array.replicate_zero,List.push_toArray,List.append_toArray,List.nil_append,List.cons_append]
 gi_wp2
 have hs0:(w.alloc (.cells #[.slice none 0 0] 530)).heap.size=w.heap.size+1:=by simp
 have hseq:SeqStopsK F (n - 1) P 420 #[.pointer (some ⟨Bm,0,none⟩)] (fun x:J9 ms=>#[x.1.key]) KeepsWalks (fun xs=>(xs.map Subtype.val).Perm ms.toList) (fun _=>True) ms.size (w.alloc (.cells #[.slice none 0 0] 530)):=by
  intro l J Jx W hW hJ hJx hY h0
  have hm':W.cell? ⟨Bm,0,none⟩=some (.map (some bm)):=(hW.cell (p:=⟨Bm,0,none⟩) (show Bm < _ by rw [hs0];omega)).trans ((World.cell?_of_block (heap_alloc_old _ _ hBm)).trans hm)
  have hb':W.heap[bm]? = some (.map ms clock):=(hW.block bm (by rw [hs0];omega)).trans ((heap_alloc_old _ _ hbm).trans hb)
  refine (D3U mixed f420 a412 z412 v86 r86 i86 t412 u412 F (n - 1) h420 hro (by omega) l Bm bm clock ms hst hks J Jx hY W hJ hm' hb' h0).mono ?_
  rintro e W' ⟨h1,h2 | ⟨pre,h2⟩⟩
  ·exact ⟨h1,.inl h2⟩
  ·exact ⟨h1,.inr ⟨pre,trivial,h2⟩⟩
 have hfl:∀ {W W':World} {row:Option Nat} {Bx:Nat} {cs:Array Value} {t:TypeId},W.heap[Bx]? = some (.cells cs t (0,0))→W.grownBy W' row→(∀ r,row=some r→∃ o:Obj,W.heap[r]? = some o∧o.isCells=false)→W'.heap[Bx]? = some (.cells cs t (0,0)):=by
  intro W W' row Bx cs t hB hg hr
  refine (hg.block Bx (Array.getElem?_eq_some_iff.1 hB).1 (fun e=>?_)).trans hB
  obtain ⟨o,ho,hc⟩:=hr Bx e.symm
  rw [hB] at ho;cases ho;cases hc
 refine wpIn_rangeFunc_ownH hro h1 (gf:=420) (lb:=#[.pointer (some ⟨Bm,0,none⟩)]) rfl h420 e420 hseq walksK_t walksK_b (Below.refl _ _) (fun _=>rfl)
  (fun pre W=>(∃ v,Boxed W w.heap.size 530 v∧W.ownsRow w.heap.size 86 33 v pre.length (cellsOf pre)∧(v=.slice none 0 0↔pre=[]))∧Below w.heap.size w W)
  (fun _ _ _=>False)
  (OwnFrom.and (Own.from (holdsRow_own w.heap.size w.heap.size 530 86 33 (fun pre:List (J9 ms)=>pre.length) (fun pre=>cellsOf pre) (fun pre v=>(v=.slice none 0 0↔pre=[]))) _) (ownFrom_below (Nat.le_refl _) (by rw [hs0];omega)))
  (fun _ _ _ _ _ h _ _=>h)
  ⟨⟨_,Boxed.new w 530 _,World.ownsRow_nil _ _ _ _,by simp⟩,(Below.refl _ w).alloc (Nat.le_refl _) _⟩
  (fun x a' W=>∃ Bx,w.heap.size+1≤Bx∧W.heap[Bx]? = some (.cells (A99 x.1) 86 (0,0))∧a'={ tmps:=#[.slice none 0 0,.func (.func 420) #[] #[.pointer (some ⟨Bm,0,none⟩)],.pointer (some ⟨w.heap.size,0,none⟩),undef,.slice none 0 0,.pointer (some ⟨Bx,0,none⟩),.func (.func 420) #[] #[.pointer (some ⟨Bm,0,none⟩)],.agg (A99 x.1),undef,undef,undef,undef,undef],defers:=[] })
  (fun x a' s W W' row ⟨Bx,h1,h2,h3⟩ hg hr=>⟨Bx,h1,hfl h2 hg (fun r e=>(hr r e).2),h3⟩)
  ?assign ?body ?done ?stop
 case assign =>
  rintro l pre x W K ⟨⟨v,hv,hrow,hnl⟩,hB⟩ hK
  obtain ⟨cs,hk,hc33,hone⟩:=hks x.1 x.2
  have hbs:=hB.size
  have hci:(P.info? 86).map (·.size)=some cs.size:=by rw [hc33];exact i86
  have hcz:A5w.size=cs.size:=by rw [hc33];rfl
  have hkc:A99 x.1=cs:=by rw [A99,hk];rfl
  gi_wp2
  have hsto:=run_storeCells_new (P:=P) W 86 A5w cs hci hcz hone
  simp only [r86.2,Result.andThen,↓reduceIte,hsto]
  rw [Oper.uponIn_skip]
  gi_wp2
  refine hK _ _ ((KeepsOthers.alloc _ _).from _) (KeepsWalks.alloc _ _) ⟨⟨v,hv.alloc _,hrow.alloc _,hnl⟩,hB.alloc hbs _⟩ ⟨W.heap.size,?_,?_,?_⟩
  ·have:=hv.lt;omega
  ·rw [hkc];exact World.alloc_heap_new W _
  ·rw [hkc];rfl
 case body =>
  rintro l pre x a' W hl ⟨r,hr⟩ ⟨⟨v,hv,hrow,hnl⟩,hB⟩ ⟨Bx,hBx,bX,rfl⟩ hlt
  obtain ⟨cs,hk,hc33,hone⟩:=hks x.1 x.2
  have hci:(P.info? 86).map (·.size)=some cs.size:=by rw [hc33];exact i86
  have hkc:A99 x.1=cs:=by rw [A99,hk];rfl
  rw [hkc] at bX
  have hbs:=hB.size
  have hcl:=hv.cell
  have hl86:(Instr.loadAt 86 (.pointer (some ⟨Bx,0,none⟩))).run P W=.ok (.agg cs) W:=by
   simp only [Instr.loadAt,Instr.sureAddr,Sem.run_bind,Sem.run_pure,Result.andThen]
   exact run_loadVar_row W Bx 86 86 cs (0,0) _ bX t86 rfl hci
  have hml:1000001≤maxLen:=by decide
  have hone':∀ u∈cs.toList,u.oneCell'=true:=by
   intro u hu
   exact (Array.all_eq_true_iff_forall_mem.1 hone) u (Array.mem_toList_iff.1 hu)
  gi_wp2_with (first
   | (refine A6K rfl 86 _ rfl hl86 ?_)
   | (refine A2a rfl 530 _ rfl (B99 t530 r86 rfl v86 _ hc33) ?_)
   | (gi_at_builtin;refine B0a ?_)
   | gi_in)
  show wpListIn _ _ _ _ _ _ _ _
  refine wpListIn_append_own _ rfl _ _ 530 rfl w.heap.size 86 i0 (.agg A5w) 33 36 t530 hi hz0 hz1 hz2 rfl (by decide) _ _ _ rfl (hrow.alloc _) ⟨W.heap.size,0,none⟩ 1 1 cs.toList rfl (by rw [D9F,hc33]) ?_ hone' (by omega) (by omega) (by simp;omega) ?_
  ·intro j u hj
   have hadd:(⟨W.heap.size,0,none⟩:Addr).add j=⟨W.heap.size,j,none⟩:=by unfold Addr.add;split<;>simp_all
   rw [hadd,cell_of_row _ _ j cs 86 (0,0) (World.alloc_heap_new W _)]
   simpa using hj
  ·intro v' w1 hown' hgrow hnil
   obtain ⟨g',cap',rfl⟩:=ownsRow_succ hown'
   obtain ⟨hv1,hv2,hr2,hk2,hb2⟩:=hv.appended (by decide) hrow hbs (Nat.le_refl _) hown' hgrow
   have hc1:=hv1.cell
   have hf1:=hv1.frozen
   gi_wp2
   refine ⟨hk2.from _,A6L hk2 hk2.size,⟨_,hv2,?_,by simp⟩,hB.trans hb2⟩
   have e1:(pre++[x]).length=pre.length+1:=by simp
   have e2:cellsOf (pre++[x])=cellsOf pre++cs.toList:=by simp [cellsOf,hkc]
   rw [e1,e2];exact hr2
 case done =>
  rintro D ys W hD hS ⟨⟨v,hv,hrow,hnl⟩,hB⟩ hK
  have hcl:=hv.cell
  gi_wp2
  refine ⟨by simp,.inl ⟨_,_,rfl,run_takeDeferred hK,?_⟩⟩
  exact ⟨_,results_tmp rfl _ _ _,v,ys,rfl,hS,ownsRow_putObj hrow _ hK rfl,hnl,hB.trans (belowK_b (w:=w) (Nat.le_refl _) W D _ _ (by rw [hs0] at hD;omega) hK rfl rfl)⟩
 case stop =>
  rintro D c pre W _ _ h _
  exact h.elim
end Go.Proofs.YtgaghkafmeelhaaGreat
namespace Go.Proofs.YtgaghkafmeelhaaGreat
open Go.RowKit Go.Shelf Go.Vm
set_option linter.unusedVariables false
attribute [local go_sem] Oper.semAt_some
set_option maxRecDepth 100000 in
theorem B6X (Bm bm clock:Nat) (ms:Array MapEntry) (hst:StB ms clock) (hks:∀ m∈ms.toList,∃ cs,m.key=.agg cs∧cs.size=33∧cs.all (·.oneCell')=true) (hlen:ms.size≤1000000)
  (w:World) (hm:w.cell? ⟨Bm,0,none⟩=some (.map (some bm))) (hb:w.heap[bm]? = some (.map ms clock)) :
  Calls Tryz.prog 418 #[.func (.func 420) #[] #[.pointer (some ⟨Bm,0,none⟩)]] w fun e w'=>∃ (v:Value) (xs:List MapEntry),e=.returned v∧xs.Perm ms.toList∧w'.ownsRow w.heap.size 86 33 v xs.length (xs.flatMap fun m=>m.key.cells.toList)∧(v=.slice none 0 0↔xs=[])∧Below w.heap.size w w':=by
 have hap:=(callsIn_wide (n:=6)).1 (C0a (P:=Tryz.prog) (by kernel_rfl) Tryz.func420 Tryz.func445 (enters_of Tryz.func420 (by kernel_rfl) rfl) Tryz.isAgg412 Tryz.sizeOf412 Tryz.zeroValue86 ⟨Tryz.isAgg86,Tryz.sizeOf86⟩ (by kernel_rfl) Tryz.underlying412 Tryz.runUnderlying412
  Tryz.isAgg530 Tryz.sizeOf530 Tryz.underlying530 ⟨_,Tryz.underlying86⟩ (by kernel_rfl) Fence.wide 6 trivial trivial rfl (by omega) Bm bm clock ms hst hks hlen w hm hb)
 go_enter Tryz.func418,Tryz.ntmps418
 go_wp2_with (go_at_call 445;refine hap.mono ?_;rintro e w' ⟨v,xs,rfl,h1,h2,h3,h4⟩)
 go_ret
 refine ⟨_,xs.map Subtype.val,rfl,h1,?_,?_,h4⟩
 ·rw [D9C]
  have:(xs.map Subtype.val).flatMap (fun m=>m.key.cells.toList)=cellsOf xs:=by
   unfold cellsOf A99
   rw [List.flatMap_map]
  rw [this];exact h2
 ·show v=_↔_;rw [h3];exact List.map_eq_nil_iff.symm
set_option maxRecDepth 100000 in
theorem C0b (w:World) (seq ord:Value) (R1 R2:Value→World→Prop) (h418:Calls Tryz.prog 418 #[seq] w fun e w'=>∃ v,e=.returned v∧R1 v w')
  (h419:∀ v w',R1 v w'→Calls Tryz.prog 419 #[v,ord] w' fun e w''=>(∃ u,e=.returned u)∧R2 v w''):Calls Tryz.prog 387 #[seq,ord] w fun e w'=>∃ v,e=.returned v∧R2 v w':=by
 go_enter Tryz.func387,Tryz.ntmps387
 go_wp2_with (first
  | (go_at_call 418;refine h418.mono ?_;rintro e w' ⟨v,rfl,h⟩)
  | (go_at_call 419;refine (h419 _ _ h).mono ?_;rintro e w'' ⟨⟨u,rfl⟩,h2⟩))
 go_ret
 exact ⟨_,rfl,h2⟩
end Go.Proofs.YtgaghkafmeelhaaGreat
namespace Go.Proofs.YtgaghkafmeelhaaGreat
open Go.Vm Go.RowKit Go.Proofs
set_option maxRecDepth 100000
set_option linter.unusedVariables false
def B1I:V:=.l [bl [197,145,24,66,65,162,21,197,16,131,212,246,251,127,118,111,176,14,12,26,164,250,213,32,222,249,71,113,220,84,82,218],.i 0]
def B4G:V:=.l [bl [197,242,206,186,112,14,237,35,183,160,216,139,18,14,218,103,73,246,64,217,154,84,75,71,160,156,243,65,167,171,88,229],.i 0]
def C0c (N:Nat) (wo:List (Nat×Ob)):Option J7→Bool
 | some o=>Nat.ble o.nx N&&(aeq o.val (.t [])&&(B6Z o.wo wo&&nlq o.ro [0]))
 | none=>false
theorem B3z {N:Nat} {wo:List (Nat×Ob)} {o:Option J7} (h:C0c N wo o=true):∃ n,n≤N∧o=some (⟨.t [],wo,[0],n⟩:J7):=by
 unfold C0c at h
 split at h
 ·rename_i o
  obtain ⟨v,w,r,n⟩:=o
  simp only [D9z] at h
  obtain ⟨h1,h2,h3,h4⟩:=h
  obtain rfl:=A83 _ _ h2
  obtain rfl:=A84 h3
  obtain rfl:=A31 h4
  exact ⟨n,D9E h1,rfl⟩
 ·cases h
def D3V:List (Nat×H4):=(313,A4M (C0G T 29))::C9m
theorem B3A:P4 Tryz.prog T D3V:=A3s.cons (A4u _) (by rw [A4v];exact B7t (u8:=5) (by kernel_rfl) (by kernel_rfl) Tryz.func313 (by kernel_rfl) (by kernel_rfl) (by kernel_rfl) (by kernel_rfl))
def KB:KC:=A0g Tryz.prog T D3V false 1000 12
theorem hKB:KB.nat:=P5 B3A 12
theorem hSB:KOK Tryz.prog T KB.dir:=Z5 follows C5 B3A 12
theorem D9e:(A3F Tryz.prog T KB (fun _ _=>none) false 1000 419).dir [.o 0 1,.f 389 []] (ofL [.row 86 1 [] true false]) 1=some (⟨.t [],[(0,.row 86 1 [] true false)],[0],1⟩:J7):=by kernel_rfl
theorem D9f (a:V):(A3F Tryz.prog T KB (fun _ _=>none) false 1000 419).dir [.o 0 1,.f 389 []] (ofL [.row 86 1 [a] false false]) 1=some (⟨.t [],[(0,.row 86 1 [a] false false)],[0],1⟩:J7):=by kernel_rfl
theorem D9g:C0c 100000 [(0,.row 86 1 [B1I,B4G] false false)] ((A3F Tryz.prog T KB (fun _ _=>none) false 1000 419).dir [.o 0 1,.f 389 []] (ofL [.row 86 1 [B1I,B4G] false false]) 1)=true:=by kernel_rfl
theorem D9h:C0c 100000 [(0,.row 86 1 [B1I,B4G] false false)] ((A3F Tryz.prog T KB (fun _ _=>none) false 1000 419).dir [.o 0 1,.f 389 []] (ofL [.row 86 1 [B4G,B1I] false false]) 1)=true:=by kernel_rfl
theorem C0d:A5S Tryz.prog T 419 (S2.sf2 86 389 100000 B1I B4G).dir :=
 S2.sf2_at (B7K follows C5 hKB hSB (A4K (P:=Tryz.prog) (T:=T) (f:=419)).nat A4K.ok) ⟨1,by decide,D9e⟩ (fun a=>⟨1,by decide,D9f a⟩) (B3z D9g) (B3z D9h)
theorem C9n {α:Type} {o:Option α} {p:α→Bool} (h:o.any p=true):∃ k,o=some k∧p k=true:=by
 cases o with
 | none=>cases h
 | some k=>exact ⟨k,rfl,h⟩
theorem D3W:S2.SortW Tryz.prog 387 419 420 389 86:=fun Bm bm clock ms w R2 hst hks hlen hm hb h =>
 C0b w _ _ (fun v w'=>∃ xs:List MapEntry,xs.Perm ms.toList∧w'.ownsRow w.heap.size 86 33 v xs.length (xs.flatMap fun m=>m.key.cells.toList)∧(v=.slice none 0 0↔xs=[])∧Below w.heap.size w w') R2
  ((B6X Bm bm clock ms hst hks hlen w hm hb).mono fun e w' ⟨v,xs,h0,h1,h2,h3,h4⟩=>⟨v,h0,xs,h1,h2,h3,h4⟩)
  (fun v w' ⟨xs,h1,h2,h3,h4⟩=>h v xs w' h1 h2 h3 h4)
abbrev B3B:E7:=(S2.sort2K 420 389 86 100000 B1I B4G).dir
theorem B1J:B2 Tryz.prog T 387 B3B :=
 S2.sort2K_ok C5 D3W C0d (by decide) (Nat.le_refl _) (by kernel_rfl) (C9n (by kernel_rfl)) (fun args w=>enters_of Tryz.func387 (by kernel_rfl) rfl args w) (fun args w=>enters_of Tryz.func419 (by kernel_rfl) rfl args w)
end Go.Proofs.YtgaghkafmeelhaaGreat
end
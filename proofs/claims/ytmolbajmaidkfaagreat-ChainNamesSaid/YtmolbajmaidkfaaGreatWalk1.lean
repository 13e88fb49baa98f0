/- What functions compute, and the law run. -/
import Derived.Test.YtmolbajmaidkfaaGreatTy
import Derived.Test.YtmolbajmaidkfaaGreatVm10
import Derived.Test.YtmolbajmaidkfaaGreatVm11
import Derived.Shelf.SlMaps.Clone
import Derived.Test.YtmolbajmaidkfaaGreatProg
import Derived.RangeFuncNested
import Derived.RangeFuncBound
import Derived.RangeFuncCalls
import Derived.RangeFuncLeaves
import Derived.Shelf.Abstract
import Derived.Shelf.RegionOpen
import Derived.WalkKit
import Derived.OwnWalkIn
import Derived.TacticsInMore
import Derived.LoopNIn
import Derived.LoopIn
import Derived.LoopTactic
import Derived.Deep.WholeRow
import Derived.Maps.AppendAt
set_option linter.constructorNameAsVariable false
set_option linter.unusedVariables false
set_option linter.unusedSimpArgs false
set_option linter.unnecessarySimpa false
noncomputable section
namespace Go.Proofs.YtmolbajmaidkfaaGreat
open Go.Vm
set_option maxRecDepth 100000
set_option linter.unusedVariables false
abbrev nT (f:Nat):Nat:=C9Z Tryz.prog f
abbrev cT (f i:Nat):Code:=lp (A2b Tryz.prog f) i
def D4m:List (Nat×H6):=[]
theorem A9f:P1 Tryz.prog T D4m:=B4p
def K1:KC:=A0g Tryz.prog T D4m false FU 4
theorem hK1:K1.nat:=P2 A9f 4
theorem hS1:KOK Tryz.prog T K1.dir:=Z0 follows D0 A9f 4
def B3m:B9j→Vm.St
 | .m x z i w=>⟨[(0,.v 80 x),(2,.p 0 508 []),(3,.p 1 508 []),(8,.i .i64 i)],(.n (some (.box 508 (.v 508 z) false)) (.n (some (.box 508 (.v 508 w) false)) .e .e) .e),[],2,some []⟩
def C9w (R:Type) (kx:Exit→Vm.St→Option R):C97→Option R
 | .o x z i w=>kx (.exit 0) { B3m (.m x z i w) with nx:=16 }
def B12:Vm.St→Option B9j
 | ⟨[(0,.v 80 x),(2,.p 0 508 []),(3,.p 1 508 []),(8,.i .i64 i)],(.n (some (.box 508 (.v 508 z) false)) (.n (some (.box 508 (.v 508 w) false)) .e .e) .e),[],2,some []⟩=>some (.m x z i w)
 | _=>none
theorem B4V:A6D B12 B3m:=by
 intro _ _ h
 unfold B12 at h
 split at h<;>first | (cases h;rfl) | cases h
theorem C0j:A2X T K1 (fun _=>none) (nT 362) (cT 362 0) 0 [0,2,3,8] 16 B3m B59 C9w:=by
 intro R of x K kx
 cases x<;>kernel_rfl
def D4n:LS:=A1k T K1 (fun _=>none) (nT 362) (cT 362 0) 0 [0,2,3,8] 16 B12 B59 C9w
theorem B3n:T6 Tryz.prog T (nT 362) 0 (cT 362 0) D4n :=
 T9 follows D0 hK1 hS1 F5 (D2 _) B3m B4V C0j
def B3o:B9k→Vm.St
 | .m z i w=>⟨[(2,.p 0 508 []),(3,.p 1 508 []),(5,.i .i64 i)],(.n (some (.box 508 (.v 508 z) false)) (.n (some (.box 508 (.v 508 w) false)) .e .e) .e),[],2,some []⟩
def C9x (R:Type) (kx:Exit→Vm.St→Option R):C98→Option R
 | .o z i w=>kx (.exit 2) { B3o (.m z i w) with nx:=16 }
def B13:Vm.St→Option B9k
 | ⟨[(2,.p 0 508 []),(3,.p 1 508 []),(5,.i .i64 i)],(.n (some (.box 508 (.v 508 z) false)) (.n (some (.box 508 (.v 508 w) false)) .e .e) .e),[],2,some []⟩=>some (.m z i w)
 | _=>none
theorem B4W:A6D B13 B3o:=by
 intro _ _ h
 unfold B13 at h
 split at h<;>first | (cases h;rfl) | cases h
theorem C0k:A2X T K1 (fun _=>none) (nT 362) (cT 362 1) 0 [2,3,5] 16 B3o B4s C9x:=by
 intro R of x K kx
 cases x<;>kernel_rfl
def D4o:LS:=A1k T K1 (fun _=>none) (nT 362) (cT 362 1) 0 [2,3,5] 16 B13 B4s C9x
theorem B3p:T6 Tryz.prog T (nT 362) 0 (cT 362 1) D4o :=
 T9 follows D0 hK1 hS1 F5 (D2 _) B3o B4W C0k
def D4p:Nat→LC:=atN 0 [(3,D4n),(8,D4o)]
theorem C0l:A02 Tryz.prog T 362 D4p:=A0r 0 (List.forall_mem_cons.2 ⟨B3n.1,List.forall_mem_cons.2 ⟨B3p.1,fun _ h=>by cases h⟩⟩) 2 (by kernel_rfl) ⟨⟨trivial,loI (s0:=D4n) (by kernel_rfl) B3n⟩,loI (s0:=D4o) (by kernel_rfl) B3p⟩
def Gsp:FC:=fun R xs k=>match xs with
 | [x]=>Z9 (B59 R) (A7 FU) (.m x z64 0 z64) (fun | .o _ z _ w=>Z9 (B4s R) (A7 FU) (.m z 16 w) (fun | .o _ _ w=>k [.d 508 w]))
 | _=>none
theorem D4q (R:Type) (x:V) (k:List Rs→Option R):W7 Tryz.prog T K1 D4p false FU 362 R (A4 T [80] [x]) (fun _=>none) 0 (fun out=>ob (A5 T false [.d 508] out) k)=Gsp R [x] k:=by kernel_rfl
def D4r:List (Nat×H6):=(362,A9 T false [80] (Fsp 508))::D4m
theorem A9g:P1 Tryz.prog T D4r:=by
 refine A1l (sh:=false) (rk:=[.d 508]) (d:=4) (fu:=FU) (Lo:=D4p) (G:=Gsp) follows D0 A9f (B9q 508) (by kernel_rfl) C0l (fun R xs k htv=>?_) (fun xs rs htv hrs=>?_)
 ·match xs,htv.len with
  | [x],_=>exact D4q R x k
 ·match xs,htv,htv.len with
  | [x],htv,_ =>
   obtain ⟨e,cs,hx⟩:=htv.head
   obtain ⟨bs,h1,h2⟩:=A5H (T:=T) (el:=5) (kd:=.u8) (by kernel_rfl) (by kernel_rfl) rfl hx
   simp only [Fsp] at hrs
   cases hl:Nat.ble 64 x.els.length with
   | false=>rw [hl] at hrs;cases hrs
   | true =>
    rw [hl] at hrs
    have hl:=E1p hl
    rw [h1,E1n] at hl
    exact (B1r h1 (B26 h2) hl HID (fun w=>some [Rs.d 508 w])).trans hrs
def K2:KC:=A0g Tryz.prog T D4r false FU 4
theorem hK2:K2.nat:=P2 A9g 4
theorem hS2:KOK Tryz.prog T K2.dir:=Z0 follows D0 A9g 4
def B3q:B9l→Vm.St
 | .m s z w k x i=>⟨[(2,.p 0 481 []),(4,.p 1 481 []),(5,.p 3 508 []),(6,.p 4 508 []),(7,.p 5 481 []),(18,.i .i64 i)],(.n (some (.box 481 (.v 481 s) false)) (.n (some (.box 481 (.v 481 z) false)) (.n (some (.box 508 (.v 508 w) false)) .e .e) (.n (some (.box 481 (.v 481 x) false)) .e .e)) (.n none (.n (some (.box 508 (.v 508 k) false)) .e .e) .e)),[],6,some []⟩
def C9y (R:Type) (kx:Exit→Vm.St→Option R):C99→Option R
 | .o s z w k x i=>kx (.exit 0) { B3q (.m s z w k x i) with nx:=16 }
def B14:Vm.St→Option B9l
 | ⟨[(2,.p 0 481 []),(4,.p 1 481 []),(5,.p 3 508 []),(6,.p 4 508 []),(7,.p 5 481 []),(18,.i .i64 i)],(.n (some (.box 481 (.v 481 s) false)) (.n (some (.box 481 (.v 481 z) false)) (.n (some (.box 508 (.v 508 w) false)) .e .e) (.n (some (.box 481 (.v 481 x) false)) .e .e)) (.n none (.n (some (.box 508 (.v 508 k) false)) .e .e) .e)),[],6,some []⟩=>some (.m s z w k x i)
 | _=>none
theorem B4X:A6D B14 B3q:=by
 intro _ _ h
 unfold B14 at h
 split at h<;>first | (cases h;rfl) | cases h
theorem C0m:A2X T K2 (fun _=>none) (nT 338) (cT 338 0) 0 [2,4,5,6,7,18] 16 B3q B6a C9y:=by
 intro R of x K kx
 cases x<;>kernel_rfl
def D4s:LS:=A1k T K2 (fun _=>none) (nT 338) (cT 338 0) 0 [2,4,5,6,7,18] 16 B14 B6a C9y
theorem B3r:T6 Tryz.prog T (nT 338) 0 (cT 338 0) D4s :=
 T9 follows D0 hK2 hS2 F5 (D2 _) B3q B4X C0m
def B3s:B9m→Vm.St
 | .m s z x i=>⟨[(2,.p 0 481 []),(4,.p 1 481 []),(7,.p 5 481 []),(98,.i .i64 i)],(.n (some (.box 481 (.v 481 s) false)) (.n (some (.box 481 (.v 481 z) false)) .e (.n (some (.box 481 (.v 481 x) false)) .e .e)) .e),[],6,some []⟩
def C9z (R:Type) (kx:Exit→Vm.St→Option R):D0a→Option R
 | .o s z x i=>kx (.exit 2) { B3s (.m s z x i) with nx:=16 }
def B15:Vm.St→Option B9m
 | ⟨[(2,.p 0 481 []),(4,.p 1 481 []),(7,.p 5 481 []),(98,.i .i64 i)],(.n (some (.box 481 (.v 481 s) false)) (.n (some (.box 481 (.v 481 z) false)) .e (.n (some (.box 481 (.v 481 x) false)) .e .e)) .e),[],6,some []⟩=>some (.m s z x i)
 | _=>none
theorem B4Y:A6D B15 B3s:=by
 intro _ _ h
 unfold B15 at h
 split at h<;>first | (cases h;rfl) | cases h
theorem C0n:A2X T K2 (fun _=>none) (nT 338) (cT 338 1) 0 [2,4,7,98] 16 B3s B1p C9z:=by
 intro R of x K kx
 cases x<;>kernel_rfl
def D4t:LS:=A1k T K2 (fun _=>none) (nT 338) (cT 338 1) 0 [2,4,7,98] 16 B15 B1p C9z
theorem B3t:T6 Tryz.prog T (nT 338) 0 (cT 338 1) D4t :=
 T9 follows D0 hK2 hS2 F5 (D2 _) B3s B4Y C0n
def D4u:Nat→LC:=atN 0 [(3,D4s),(11,D4t)]
theorem C0o:A02 Tryz.prog T 338 D4u:=A0r 0 (List.forall_mem_cons.2 ⟨B3r.1,List.forall_mem_cons.2 ⟨B3t.1,fun _ h=>by cases h⟩⟩) 2 (by kernel_rfl) ⟨⟨trivial,loI (s0:=D4s) (by kernel_rfl) B3r⟩,loI (s0:=D4t) (by kernel_rfl) B3t⟩
def Gmx:FC:=fun R xs k=>match xs with
 | [s,b]=>bif Nat.ble 64 b.els.length then Z9 (B6a R) (A7 FU) (.m s z8 (spW b) A2d s 0) (fun | .o s z _ _ x _=>Z9 (B1p R) (A7 FU) (.m s z x 0) (fun | .o s _ _ _=>k [.d 481 s])) else none
 | _=>none
theorem D4v (R:Type) (s b:V) (k:List Rs→Option R):W7 Tryz.prog T K2 D4u false FU 338 R (A4 T [481,80] [s,b]) (fun _=>none) 0 (fun out=>ob (A5 T false [.d 481] out) k)=Gmx R [s,b] k:=by kernel_rfl
def D4w:List (Nat×H6):=(338,A9 T false [481,80] (Fmx 481))::D4r
theorem A5b:P1 Tryz.prog T D4w:=by
 refine A1l (sh:=false) (rk:=[.d 481]) (d:=4) (fu:=FU) (Lo:=D4u) (G:=Gmx) follows D0 A9g (B9r 481) (by kernel_rfl) C0o (fun R xs k htv=>?_) (fun xs rs htv hrs=>?_)
 ·match xs,htv.len with
  | [s,b],_=>exact D4v R s b k
 ·match xs,htv,htv.len with
  | [s,b],htv,_ =>
   obtain ⟨e,cs,hs⟩:=htv.head
   obtain ⟨e2,cs2,hx⟩:=htv.tail.head
   obtain ⟨bs,h1,h2⟩:=A5H (T:=T) (el:=5) (kd:=.u8) (by kernel_rfl) (by kernel_rfl) rfl hx
   obtain ⟨ns,rfl,n1,n2⟩:=D0c (T:=T) (n:=8) (el:=29) (kd:=.u32) (by kernel_rfl) (by kernel_rfl) rfl hs
   obtain ⟨s8,hs8,hok⟩:=D0g n1 n2
   rw [hs8] at hrs ⊢
   simp only [Fmx] at hrs
   cases hl:Nat.ble 64 b.els.length with
   | false=>rw [hl] at hrs;cases hrs
   | true =>
    rw [hl] at hrs
    simp only [Gmx,hl,cond_true]
    have hl:=E1p hl
    rw [h1,E1n] at hl
    exact (B9s hok h1 (B26 h2) hl HID (fun w=>some [Rs.d 481 w])).trans hrs
def K3:KC:=A0g Tryz.prog T D4w false FU 4
theorem hK3:K3.nat:=P2 A5b 4
theorem hS3:KOK Tryz.prog T K3.dir:=Z0 follows D0 A5b 4
end Go.Proofs.YtmolbajmaidkfaaGreat
namespace Go.Proofs.YtmolbajmaidkfaaGreat
open Go.Vm
set_option maxRecDepth 100000
set_option linter.unusedVariables false
def B3u:B9t→Vm.St
 | .m b xs=>⟨[(0,.v 80 b),(3,.o 1 1)],(.n none (.n (some (.row 5 1 xs false false)) .e .e) .e),[],2,some []⟩
def C9A (R:Type) (kx:Exit→Vm.St→Option R):D0j→Option R
 | .o b xs=>kx (.exit 0) { B3u (.m b xs) with nx:=8 }
def B16:Vm.St→Option B9t
 | ⟨[(0,.v 80 b),(3,.o 1 1)],(.n none (.n (some (.row 5 1 xs false false)) .e .e) .e),[],2,some []⟩=>some (.m b xs)
 | _=>none
theorem B4Z:A6D B16 B3u:=by
 intro _ _ h
 unfold B16 at h
 split at h<;>first | (cases h;rfl) | cases h
theorem C0p:A2X T K3 (fun _=>none) (nT 232) (cT 232 0) 0 [0,3] 8 B3u B9u C9A:=by
 intro R of x K kx
 cases x<;>kernel_rfl
def D4x:LS:=A1k T K3 (fun _=>none) (nT 232) (cT 232 0) 0 [0,3] 8 B16 B9u C9A
theorem B3v:T6 Tryz.prog T (nT 232) 0 (cT 232 0) D4x :=
 T9 follows D0 hK3 hS3 F5 (D2 _) B3u B4Z C0p
def D4y:Nat→LC:=atN 0 [(2,D4x)]
theorem C0q:A02 Tryz.prog T 232 D4y:=A0r 0 (List.forall_mem_cons.2 ⟨B3v.1,fun _ h=>by cases h⟩) 2 (by kernel_rfl) ⟨⟨trivial,loI (s0:=D4x) (by kernel_rfl) B3v⟩,loN (by kernel_rfl)⟩
theorem D4z (R:Type) (b:V) (k:List Rs→Option R):W7 Tryz.prog T K3 D4y false FU 232 R (A4 T [80] [b]) (fun _=>none) 0 (fun out=>ob (A5 T false [.r 5] out) k)=Gpd 5 R [b] k:=by kernel_rfl
def D4A:List (Nat×H6):=(232,A9 T false [80] (Fpd 5))::D4w
theorem A9h:P1 Tryz.prog T D4A:=by
 refine A1l (sh:=false) (rk:=[.r 5]) (d:=4) (fu:=FU) (Lo:=D4y) (G:=Gpd 5) follows D0 A5b (B9B 5) (by kernel_rfl) C0q (fun R xs k htv=>?_) (fun xs rs htv hrs=>?_)
 ·match xs,htv.len with
  | [b],_=>exact D4z R b k
 ·match xs,htv.len with
  | [b],_=>exact D0n 5 hrs
def K4:KC:=A0g Tryz.prog T D4A false FU 4
theorem hK4:K4.nat:=P2 A9h 4
theorem hS4:KOK Tryz.prog T K4.dir:=Z0 follows D0 A9h 4
def B3w:B9v→Vm.St
 | .m z v xs kk at_ ws i=>⟨[(2,.p 0 31 []),(3,.p 1 360 []),(4,.o 2 1),(5,.p 4 361 []),(6,.i .i64 at_),(7,.o 5 1),(8,.i .i64 i)],(.n (some (.box 31 (.v 31 z) false)) (.n (some (.box 360 (.v 360 v) false)) .e (.n (some (.row 170 1 ws false false)) .e .e)) (.n (some (.row 5 1 xs false false)) (.n (some (.box 361 (.v 361 kk) false)) .e .e) .e)),[],6,some []⟩
def C9B (R:Type) (kx:Exit→Vm.St→Option R):B6d→Option R
 | .o z v xs kk at_ ws i=>kx (.exit 2) { B3w (.m z v xs kk at_ ws i) with nx:=16 }
def B17:Vm.St→Option B9v
 | ⟨[(2,.p 0 31 []),(3,.p 1 360 []),(4,.o 2 1),(5,.p 4 361 []),(6,.i .i64 at_),(7,.o 5 1),(8,.i .i64 i)],(.n (some (.box 31 (.v 31 z) false)) (.n (some (.box 360 (.v 360 v) false)) .e (.n (some (.row 170 1 ws false false)) .e .e)) (.n (some (.row 5 1 xs false false)) (.n (some (.box 361 (.v 361 kk) false)) .e .e) .e)),[],6,some []⟩=>some (.m z v xs kk at_ ws i)
 | _=>none
theorem B40:A6D B17 B3w:=by
 intro _ _ h
 unfold B17 at h
 split at h<;>first | (cases h;rfl) | cases h
theorem C0r:A2X T K4 (fun _=>none) (nT 128) (cT 128 1) 0 [2,3,4,5,6,7,8] 16 B3w B1s C9B:=by
 intro R of x K kx
 cases x<;>kernel_rfl
def C0s:LS:=A1k T K4 (fun _=>none) (nT 128) (cT 128 1) 0 [2,3,4,5,6,7,8] 16 B17 B1s C9B
theorem B3x:T6 Tryz.prog T (nT 128) 0 (cT 128 1) C0s :=
 T9 follows D0 hK4 hS4 F5 (D2 _) B3w B40 C0r
def B3y:B9w→Vm.St
 | .m z v xs kk at_ ws x i=>⟨[(2,.p 0 31 []),(3,.p 1 360 []),(4,.o 2 1),(5,.p 4 361 []),(6,.i .i64 at_),(7,.o 5 1),(13,.p 16 360 []),(14,.i .i64 i)],(.n (some (.box 31 (.v 31 z) false)) (.n (some (.box 360 (.v 360 v) false)) .e (.n (some (.row 170 1 ws false false)) .e .e)) (.n (some (.row 5 1 xs false false)) (.n (some (.box 361 (.v 361 kk) false)) (.n none (.n (some (.box 360 (.v 360 x) false)) .e .e) .e) .e) .e)),[],17,some []⟩
def C9C (R:Type) (kx:Exit→Vm.St→Option R):B9x→Option R
 | .o z v xs kk at_ ws x i=>kx (.exit 6) { B3y (.m z v xs kk at_ ws x i) with nx:=32 }
def B18:Vm.St→Option B9w
 | ⟨[(2,.p 0 31 []),(3,.p 1 360 []),(4,.o 2 1),(5,.p 4 361 []),(6,.i .i64 at_),(7,.o 5 1),(13,.p 16 360 []),(14,.i .i64 i)],(.n (some (.box 31 (.v 31 z) false)) (.n (some (.box 360 (.v 360 v) false)) .e (.n (some (.row 170 1 ws false false)) .e .e)) (.n (some (.row 5 1 xs false false)) (.n (some (.box 361 (.v 361 kk) false)) (.n none (.n (some (.box 360 (.v 360 x) false)) .e .e) .e) .e) .e)),[],17,some []⟩=>some (.m z v xs kk at_ ws x i)
 | _=>none
theorem B41:A6D B18 B3y:=by
 intro _ _ h
 unfold B18 at h
 split at h<;>first | (cases h;rfl) | cases h
theorem C0t:A2X T K4 (fun _=>none) (nT 128) (cT 128 3) 0 [2,3,4,5,6,7,13,14] 32 B3y B6e C9C:=by
 intro R of x K kx
 cases x<;>kernel_rfl
def C0u:LS:=A1k T K4 (fun _=>none) (nT 128) (cT 128 3) 0 [2,3,4,5,6,7,13,14] 32 B18 B6e C9C
theorem B3z:T6 Tryz.prog T (nT 128) 0 (cT 128 3) C0u :=
 T9 follows D0 hK4 hS4 F5 (D2 _) B3y B41 C0t
def B3A:B9y→Vm.St
 | .m z v xs kk at_=>⟨[(2,.p 0 31 []),(3,.p 1 360 []),(4,.o 2 1),(5,.p 4 361 []),(6,.i .i64 at_)],(.n (some (.box 31 (.v 31 z) false)) (.n (some (.box 360 (.v 360 v) false)) .e .e) (.n (some (.row 5 1 xs false false)) (.n (some (.box 361 (.v 361 kk) false)) .e .e) .e)),[],5,some []⟩
def C9D (R:Type) (kx:Exit→Vm.St→Option R):D0k→Option R
 | .o z v xs kk at_=>kx (.exit 0) { B3A (.m z v xs kk at_) with nx:=64 }
def B19:Vm.St→Option B9y
 | ⟨[(2,.p 0 31 []),(3,.p 1 360 []),(4,.o 2 1),(5,.p 4 361 []),(6,.i .i64 at_)],(.n (some (.box 31 (.v 31 z) false)) (.n (some (.box 360 (.v 360 v) false)) .e .e) (.n (some (.row 5 1 xs false false)) (.n (some (.box 361 (.v 361 kk) false)) .e .e) .e)),[],5,some []⟩=>some (.m z v xs kk at_)
 | _=>none
theorem B42:A6D B19 B3A:=by
 intro _ _ h
 unfold B19 at h
 split at h<;>first | (cases h;rfl) | cases h
theorem C0v:A2X T K4 (loT [(9,C0s),(23,C0u)]) (nT 128) (cT 128 0) 0 [2,3,4,5,6] 64 B3A B9z C9D:=by
 intro R of x K kx
 cases x<;>kernel_rfl
def D4B:LS:=A1k T K4 (loT [(9,C0s),(23,C0u)]) (nT 128) (cT 128 0) 0 [2,3,4,5,6] 64 B19 B9z C9D
theorem B3B:T6 Tryz.prog T (nT 128) 0 (cT 128 0) D4B :=
 T9 follows D0 hK4 hS4 (B24 (List.forall_mem_cons.2 ⟨B3x.1,List.forall_mem_cons.2 ⟨B3z.1,fun _ h=>by cases h⟩⟩)) (A5D 5 (by kernel_rfl) ⟨⟨⟨⟨⟨trivial,loI (s0:=C0s) (by kernel_rfl) ((show lp (lp (A2b Tryz.prog 128) 0) 0=lp (A2b Tryz.prog 128) 1 from by kernel_rfl) ▸ B3x)⟩,loN (by kernel_rfl)⟩,loI (s0:=C0u) (by kernel_rfl) ((show lp (lp (A2b Tryz.prog 128) 0) 2=lp (A2b Tryz.prog 128) 3 from by kernel_rfl) ▸ B3z)⟩,loN (by kernel_rfl)⟩,loN (by kernel_rfl)⟩) B3A B42 C0v
def D4C:Nat→LC:=atN 0 [(5,D4B)]
theorem C0w:A02 Tryz.prog T 128 D4C:=A0r 0 (List.forall_mem_cons.2 ⟨B3B.1,fun _ h=>by cases h⟩) 8 (by kernel_rfl) ⟨⟨⟨⟨⟨⟨⟨⟨trivial,loI (s0:=D4B) (by kernel_rfl) B3B⟩,loN (by kernel_rfl)⟩,loN (by kernel_rfl)⟩,loN (by kernel_rfl)⟩,loN (by kernel_rfl)⟩,loN (by kernel_rfl)⟩,loN (by kernel_rfl)⟩,loN (by kernel_rfl)⟩
theorem D4D (R:Type) (b:V) (k:List Rs→Option R):W7 Tryz.prog T K4 D4C false FU 128 R (A4 T [80] [b]) (fun _=>none) 0 (fun out=>ob (A5 T false [.d 31] out) k)=Gsm 31 R [b] k:=by kernel_rfl
def D4E:List (Nat×H6):=(128,A9 T false [80] (Fsm 31))::D4A
theorem A3R:P1 Tryz.prog T D4E:=by
 refine A1l (sh:=false) (rk:=[.d 31]) (d:=4) (fu:=FU) (Lo:=D4C) (G:=Gsm 31) follows D0 A9h (B9V 31) (by kernel_rfl) C0w (fun R xs k htv=>?_) (fun xs rs htv hrs=>?_)
 ·match xs,htv.len with
  | [b],_=>exact D4D R b k
 ·match xs,htv,htv.len with
  | [b],htv,_ =>
   obtain ⟨e,cs,hx⟩:=htv.head
   obtain ⟨bs,h1,h2⟩:=A5H (T:=T) (el:=5) (kd:=.u8) (by kernel_rfl) (by kernel_rfl) rfl hx
   exact D4g 31 h1 (B26 h2) hrs
def K5:KC:=A0g Tryz.prog T D4E false FU 4
theorem hK5:K5.nat:=P2 A3R 4
theorem hS5:KOK Tryz.prog T K5.dir:=Z0 follows D0 A3R 4
end Go.Proofs.YtmolbajmaidkfaaGreat
namespace Go.Proofs.YtmolbajmaidkfaaGreat
open Go.Vm
set_option maxRecDepth 100000
set_option linter.unusedVariables false
def C0x:PAd→Vm.St
 | .m a b xs c i=>⟨[(0,.v 126 a),(1,.v 126 b),(5,.o 1 1),(6,.i .u64 c),(7,.i .i64 i)],(.n none (.n (some (.row 170 1 xs false false)) .e .e) .e),[],2,some []⟩
def E0x (R:Type) (kx:Exit→Vm.St→Option R):QAd→Option R
 | .o a b xs c i=>kx (.exit 0) { C0x (.m a b xs c i) with nx:=8 }
def B7b:Vm.St→Option PAd
 | ⟨[(0,.v 126 a),(1,.v 126 b),(5,.o 1 1),(6,.i .u64 c),(7,.i .i64 i)],(.n none (.n (some (.row 170 1 xs false false)) .e .e) .e),[],2,some []⟩=>some (.m a b xs c i)
 | _=>none
theorem B7c:A6D B7b C0x:=by
 intro _ _ h
 unfold B7b at h
 split at h<;>first | (cases h;rfl) | cases h
theorem D4F:A2X T K5 (fun _=>none) (nT 141) (cT 141 0) 0 [0,1,5,6,7] 8 C0x BAd E0x:=by
 intro R of x K kx
 cases x<;>kernel_rfl
def HAd:LS:=A1k T K5 (fun _=>none) (nT 141) (cT 141 0) 0 [0,1,5,6,7] 8 B7b BAd E0x
theorem B7d:T6 Tryz.prog T (nT 141) 0 (cT 141 0) HAd :=
 T9 follows D0 hK5 hS5 F5 (D2 _) C0x B7c D4F
def D4G:Nat→LC:=atN 0 [(4,HAd)]
theorem C0y:A02 Tryz.prog T 141 D4G:=A0r 0 (List.forall_mem_cons.2 ⟨B7d.1,fun _ h=>by cases h⟩) 1 (by kernel_rfl) ⟨trivial,loI (s0:=HAd) (by kernel_rfl) B7d⟩
theorem D4H (R:Type) (a b:V) (k:List Rs→Option R):W7 Tryz.prog T K5 D4G false FU 141 R (A4 T [126,126] [a,b]) (fun _=>none) 0 (fun out=>ob (A5 T false [.r 170] out) k)=Gad 170 R [a,b] k:=by kernel_rfl
def E0y:List (Nat×H6):=(141,A9 T false [126,126] (Fad 170))::D4E
theorem C0z:P1 Tryz.prog T E0y:=by
 refine A1l (sh:=false) (rk:=[.r 170]) (d:=4) (fu:=FU) (Lo:=D4G) (G:=Gad 170) follows D0 A3R (B98 170) (by kernel_rfl) C0y (fun R xs k htv=>?_) (fun xs rs htv hrs=>D4i 170 hrs)
 match xs,htv.len with
 | [a,b],_=>exact D4H R a b k
def B7e:PCp→Vm.St
 | .m a b r i=>⟨[(0,.v 126 a),(1,.v 126 b),(4,.i .i64 r),(5,.i .i64 i)],.e,[],0,some []⟩
def E0z (R:Type) (kx:Exit→Vm.St→Option R):QCp→Option R
 | .r a b r i=>kx (.ret) { B7e (.m a b r i) with nx:=8 }
 | .o a b r i=>kx (.exit 0) { B7e (.m a b r i) with nx:=8 }
def B7f:Vm.St→Option PCp
 | ⟨[(0,.v 126 a),(1,.v 126 b),(4,.i .i64 r),(5,.i .i64 i)],.e,[],0,some []⟩=>some (.m a b r i)
 | _=>none
theorem B7g:A6D B7f B7e:=by
 intro _ _ h
 unfold B7f at h
 split at h<;>first | (cases h;rfl) | cases h
theorem D4I:A2X T K5 (fun _=>none) (nT 60) (cT 60 0) 0 [0,1,4,5] 8 B7e BCp E0z:=by
 intro R of x K kx
 cases x<;>kernel_rfl
def HCp:LS:=A1k T K5 (fun _=>none) (nT 60) (cT 60 0) 0 [0,1,4,5] 8 B7f BCp E0z
theorem B7h:T6 Tryz.prog T (nT 60) 0 (cT 60 0) HCp :=
 T9 follows D0 hK5 hS5 F5 (D2 _) B7e B7g D4I
def D4J:Nat→LC:=atN 0 [(2,HCp)]
theorem C0A:A02 Tryz.prog T 60 D4J:=A0r 0 (List.forall_mem_cons.2 ⟨B7h.1,fun _ h=>by cases h⟩) 1 (by kernel_rfl) ⟨trivial,loI (s0:=HCp) (by kernel_rfl) B7h⟩
theorem D4K (R:Type) (a b:V) (k:List Rs→Option R):W7 Tryz.prog T K5 D4J false FU 60 R (A4 T [126,126] [a,b]) (fun _=>none) 0 (fun out=>ob (A5 T false [.d 3] out) k)=Gcp 3 R [a,b] k:=by kernel_rfl
def D4L:List (Nat×H6):=(60,A9 T false [126,126] (Fcp 3))::E0y
theorem A3S:P1 Tryz.prog T D4L:=by
 have h:=A1l (sh:=false) (rk:=[.d 3]) (d:=4) (fu:=FU) (Lo:=D4J) (G:=Gcp 3) follows D0 A3R (C0a 3) (by kernel_rfl) C0A (fun R xs k htv=>(match xs,htv.len with
  | [a,b],_=>D4K R a b k)) (fun xs rs htv hrs=>D4j 3 hrs)
 exact C0z.cons (h _ _ (List.mem_cons_self ..)).1 (h _ _ (List.mem_cons_self ..)).2
def K7:KC:=A0g Tryz.prog T D4L false FU 4
theorem hK7:K7.nat:=P2 A3S 4
theorem hS7:KOK Tryz.prog T K7.dir:=Z0 follows D0 A3S 4
end Go.Proofs.YtmolbajmaidkfaaGreat
namespace Go.Proofs.YtmolbajmaidkfaaGreat
open Go.Vm Go.Shelf Go.Proofs
set_option maxRecDepth 100000
set_option linter.unusedVariables false
def Tryz.cloneM_ren:Go.Shelf.Ren:=⟨fun | 5=>90 | 7=>194 | n=>n,fun | 23=>65 | 25=>31 | 3=>36 | 4=>4 | 20=>20 | n=>n,fun | n=>n⟩
theorem Tryz.cloneM:Go.Proofs.SlLaysW.n5 Tryz.prog Tryz.cloneM_ren:={
 mixed:=by kernel_rfl
 f5:=⟨Tryz.f90.name,by decide,Tryz.func90.trans (congrArg some (by kernel_rfl))⟩
 f7:=Tryz.func194.trans (congrArg some (by kernel_rfl))
 t4:=Tryz.underlying4
 a4:=Tryz.isAgg4
 z4:=Tryz.sizeOf4
 v4:=Tryz.zeroValue4
 t20:=Tryz.underlying20
 a20:=Tryz.isAgg20
 z20:=Tryz.sizeOf20
 v20:=Tryz.zeroValue20
 t23:=Tryz.underlying65
 a23:=Tryz.isAgg65
 z23:=Tryz.sizeOf65
 v23:=Tryz.zeroValue65 }
def Tryz.cloneM2_ren:Go.Shelf.Ren:=⟨fun | 5=>91 | 7=>194 | n=>n,fun | 23=>67 | 25=>31 | 3=>198 | 4=>4 | 20=>20 | n=>n,fun | n=>n⟩
theorem Tryz.cloneM2:Go.Proofs.SlLaysW.n5 Tryz.prog Tryz.cloneM2_ren:={
 mixed:=by kernel_rfl
 f5:=⟨Tryz.f91.name,by decide,Tryz.func91.trans (congrArg some (by kernel_rfl))⟩
 f7:=Tryz.func194.trans (congrArg some (by kernel_rfl))
 t4:=Tryz.underlying4
 a4:=Tryz.isAgg4
 z4:=Tryz.sizeOf4
 v4:=Tryz.zeroValue4
 t20:=Tryz.underlying20
 a20:=Tryz.isAgg20
 z20:=Tryz.sizeOf20
 v20:=Tryz.zeroValue20
 t23:=Tryz.underlying67
 a23:=Tryz.isAgg67
 z23:=Tryz.sizeOf67
 v23:=Tryz.zeroValue67 }
def Tryz.cloneM3_ren:Go.Shelf.Ren:=⟨fun | 5=>191 | 7=>194 | n=>n,fun | 23=>176 | 25=>31 | 3=>174 | 4=>4 | 20=>20 | n=>n,fun | n=>n⟩
theorem Tryz.cloneM3:Go.Proofs.SlLaysW.n5 Tryz.prog Tryz.cloneM3_ren:={
 mixed:=by kernel_rfl
 f5:=⟨Tryz.f191.name,by decide,Tryz.func191.trans (congrArg some (by kernel_rfl))⟩
 f7:=Tryz.func194.trans (congrArg some (by kernel_rfl))
 t4:=Tryz.underlying4
 a4:=Tryz.isAgg4
 z4:=Tryz.sizeOf4
 v4:=Tryz.zeroValue4
 t20:=Tryz.underlying20
 a20:=Tryz.isAgg20
 z20:=Tryz.sizeOf20
 v20:=Tryz.zeroValue20
 t23:=Tryz.underlying176
 a23:=Tryz.isAgg176
 z23:=Tryz.sizeOf176
 v23:=Tryz.zeroValue176 }
def Tryz.cloneM4_ren:Go.Shelf.Ren:=⟨fun | 5=>274 | 7=>194 | n=>n,fun | 23=>391 | 25=>79 | 3=>228 | 4=>4 | 20=>20 | n=>n,fun | n=>n⟩
theorem Tryz.cloneM4:Go.Proofs.SlLaysW.n5 Tryz.prog Tryz.cloneM4_ren:={
 mixed:=by kernel_rfl
 f5:=⟨Tryz.f274.name,by decide,Tryz.func274.trans (congrArg some (by kernel_rfl))⟩
 f7:=Tryz.func194.trans (congrArg some (by kernel_rfl))
 t4:=Tryz.underlying4
 a4:=Tryz.isAgg4
 z4:=Tryz.sizeOf4
 v4:=Tryz.zeroValue4
 t20:=Tryz.underlying20
 a20:=Tryz.isAgg20
 z20:=Tryz.sizeOf20
 v20:=Tryz.zeroValue20
 t23:=Tryz.underlying391
 a23:=Tryz.isAgg391
 z23:=Tryz.sizeOf391
 v23:=Tryz.zeroValue391 }
theorem C0B:A3g Tryz.prog 90:=fun b es clock w hb=>AnyW.maps_Clone Tryz.cloneM b es clock w hb
theorem B7i:B5 Tryz.prog T 90 Y3:=A1E C0B (fun args w=>enters_of Tryz.func90 (by kernel_rfl) rfl args w)
theorem C0C:A3g Tryz.prog 91:=fun b es clock w hb=>AnyW.maps_Clone Tryz.cloneM2 b es clock w hb
theorem B7j:B5 Tryz.prog T 91 Y3:=A1E C0C (fun args w=>enters_of Tryz.func91 (by kernel_rfl) rfl args w)
theorem C0D:A3g Tryz.prog 191:=fun b es clock w hb=>AnyW.maps_Clone Tryz.cloneM3 b es clock w hb
theorem B7k:B5 Tryz.prog T 191 Y3:=A1E C0D (fun args w=>enters_of Tryz.func191 (by kernel_rfl) rfl args w)
theorem C0E:A3g Tryz.prog 274:=fun b es clock w hb=>AnyW.maps_Clone Tryz.cloneM4 b es clock w hb
theorem B7l:B5 Tryz.prog T 274 Y3:=A1E C0E (fun args w=>enters_of Tryz.func274 (by kernel_rfl) rfl args w)
end Go.Proofs.YtmolbajmaidkfaaGreat
namespace Go.Proofs.YtmolbajmaidkfaaGreat
open Go.RowKit Go.Shelf Go.Vm
open Go.ChangeMaps (setBlock)
set_option linter.unusedVariables false
attribute [local go_sem] Oper.semAt_some
abbrev A59:Array Value:=#[.int .u8 0,.int .u8 0,.int .u8 0,.int .u8 0,.int .u8 0,.int .u8 0,.int .u8 0,.int .u8 0,.int .u8 0,.int .u8 0,.int .u8 0,.int .u8 0,.int .u8 0,.int .u8 0,.int .u8 0,.int .u8 0,.int .u8 0,.int .u8 0,.int .u8 0,.int .u8 0,.int .u8 0,.int .u8 0,.int .u8 0,.int .u8 0,.int .u8 0,.int .u8 0,.int .u8 0,.int .u8 0,.int .u8 0,.int .u8 0,.int .u8 0,.int .u8 0,.int .u32 0]
abbrev J7 (ms:Array MapEntry):={ m:MapEntry // m∈ms.toList }
def R79 (P:Program):Prop:=(∀ w,(isAgg 79).run P w=.ok true w)∧(∀ w,(Go.sizeOf 79).run P w=.ok 33 w)
set_option maxRecDepth 100000 in
set_option maxHeartbeats 1000000 in
theorem E0A {P:Program} (mixed:P.follows .mixedOrders=true) (f334:P.funcs[334]? = some Tryz.f334) (a391:∀ w,(isAgg 391).run P w=.ok false w) (z391:∀ w,(Go.sizeOf 391).run P w=.ok 1 w) (v79:∀ w,(zeroValue 79).run P w=.ok (.agg A59) w) (r79:R79 P) (i79:(P.info? 79).map (·.size)=some 33) (t391:P.underlying 391=some (.map 79 228)) (u391:∀ w,(Go.underlying 391).run P w=.ok (.map 79 228) w) (F:Fence) (n:Nat) (h334:F.fn 334) (hro:F.round=none) (hn:1≤n) (l Bm bm clock:Nat) (ms:Array MapEntry) (hst:StB ms clock) (hks:∀ m∈ms.toList,∃ cs,m.key=.agg cs∧cs.size=33∧cs.all (·.oneCell')=true) (J Jx:List (J7 ms)→World→Prop)
  (hY:∀ pre (x:J7 ms) W,J pre W→pre.length < ms.size→YieldAt F (n - 1) P l #[x.1.key] W fun e W'=>(e=.returned (.bool true)∧J (pre++[x]) W'∧KeepsWalks W W')∨(e=.returned (.bool false)∧Jx (pre++[x]) W'))
  (W:World) (hJ:AbidesFrom W.heap.size J) (hm:W.cell? ⟨Bm,0,none⟩=some (.map (some bm))) (hb:W.heap[bm]? = some (.map ms clock)) (h0:J [] W) :
  CallsIn F n P 334 #[.func (.yield l) #[] #[],.pointer (some ⟨Bm,0,none⟩)] W fun e W'=>(∃ v,e=.returned v)∧((∃ xs:List (J7 ms),(xs.map Subtype.val).Perm ms.toList∧J xs W')∨(∃ pre,Jx pre W')):=by
 have hrg:=run_range_map (P:=P) W 391 _ _ bm ms clock t391 hb
 have hbm:bm < W.heap.size:=(Array.getElem?_eq_some_iff.1 hb).1
 refine callsIn_of_wp f334 rfl h334 ?_ hro
 simp only [Tryz.ntmps334,List.size_toArray,E1r,List.length_nil,Nat.reduceAdd,Nat.reduceSub,Array.replicate_succ,Array.replicate_zero,List.push_toArray,List.append_toArray,List.nil_append,List.cons_append]
 gi_wp2
 gi_loopw [3] (fun _ wr=>∃ (seen:Array Nat) (xs:List (J7 ms)),wr.heap[W.heap.size]? = some (.mapIter (some bm) clock seen clock)∧wr.heap[bm]? = some (.map ms clock)∧(xs.map Subtype.val).Perm (ms.toList.filter fun m=>seen.toList.contains m.born)∧J xs wr) (fun _ wr=>(leftOf ms (wr.iterSeen W.heap.size)).size)
 case atStart =>
  refine ⟨#[],[],heap_alloc_new _ _,(heap_alloc_old _ _ hbm).trans hb,?_,hJ [] W _ none h0 (World.grownBy_alloc W _ none) (fun r e=>by cases e)⟩
  rw [List.filter_eq_nil_iff.2 (fun m _=>by simp)]
  exact List.Perm.refl _
 case round =>
  obtain ⟨seen,xs,hit,hb1,hse,hJx⟩:=hrel
  rcases run_next_at (P:=P) wr 0 W.heap.size bm clock clock seen ms clock hit hb1 hst.1 (Nat.le_refl _) with ⟨h0,hrun⟩ | ⟨e,he,w1,hw1,hrun⟩
  ·have hnx:∀ ty,(Instr.next (.pointer (some ⟨W.heap.size,0,none⟩)) false ty).run P wr=_:=fun _=>hrun
   gi_wp2
   go_end0
   refine ⟨⟨_,rfl⟩,.inl ⟨xs,?_,hJx⟩⟩
   rwa [List.filter_eq_self.2 (fun m hm=>List.contains_iff_mem.2 (by have:=all_seen ms seen h0 m hm;simpa using this))] at hse
  ·have hnx:∀ ty,(Instr.next (.pointer (some ⟨W.heap.size,0,none⟩)) false ty).run P wr=_:=fun _=>hrun
   generalize hw2:setBlock w1 W.heap.size (.mapIter (some bm) clock (seen.push e.born) clock)=w2 at hnx
   have hw1h:w1.heap=wr.heap:=by rcases hw1 with rfl | rfl<;>rfl
   have hwr:W.heap.size < wr.heap.size:=(Array.getElem?_eq_some_iff.1 hit).1
   have hsz2:w2.heap.size=wr.heap.size:=by rw [← hw2,← hw1h];simp [setBlock]
   have hit2:w2.heap[W.heap.size]? = some (.mapIter (some bm) clock (seen.push e.born) clock):=by
    rw [← hw2];simp [setBlock,hw1h,hwr]
   have hne2:∀ k,k≠W.heap.size→w2.heap[k]? = wr.heap[k]? := fun k hk=>by rw [← hw2,← hw1h];simp [setBlock,Ne.symm hk]
   have hb2:w2.heap[bm]? = some (.map ms clock):=(hne2 bm (by omega)).trans hb1
   have hg2:wr.grownBy w2 (some W.heap.size):=by
    refine ⟨?_,?_,?_,by rw [hsz2];exact Nat.le_refl _,fun k hk hne=>hne2 k (fun q=>hne (by rw [q]))⟩<;>(rw [← hw2];rcases hw1 with rfl | rfl<;>rfl)
   have hlt2:W.heap.size < w2.heap.size:=by omega
   have hbm2:bm < w2.heap.size:=(Array.getElem?_eq_some_iff.1 hb2).1
   clear hsz2 hne2 hw1h hw2 hrun
   have hen:=run_entry_at (P:=P) w2 W.heap.size bm clock seen ms clock e hit2 hb2 (mem_left he).1 hst.2
   obtain ⟨cs,hk,hc33,hone⟩:∃ cs,e.key=.agg cs∧cs.size=33∧cs.all (·.oneCell')=true:=hks e (mem_left he).1
   rw [hk] at hen
   have hnb:e.born ∉ seen.toList:=by
    have:=(mem_left he).2
    simpa using this
   have hf1:=A58 (fun m:MapEntry=>m.born) (fun m=>seen.toList.contains m.born) (fun m=>(seen.push e.born).toList.contains m.born) ms.toList e hst.2 (mem_left he).1 (by
     cases hc:seen.toList.contains e.born with
     | false=>rfl
     | true=>exact absurd (List.contains_iff_mem.1 hc) hnb) (fun y _=>by
     rw [Bool.eq_iff_iff]
     simp)
   have hxs:xs.length < ms.size:=by
    have h1:=hse.length_eq
    have h2:=hf1.length_eq
    have h3:=List.length_filter_le (fun m:MapEntry=>(seen.push e.born).toList.contains m.born) ms.toList
    rw [E1n] at h1
    simp only [E1r,E1q] at h2 h3
    omega
   have hJ2:J xs w2:=hJ xs wr w2 _ hJx hg2 (fun r q=>by cases q;exact ⟨Nat.le_refl _,_,hit,rfl⟩)
   have hJ3:J xs (w2.alloc (.cells cs 79)):=hJ xs w2 _ none hJ2 (World.grownBy_alloc w2 _ none) (fun r q=>by cases q)
   obtain ⟨fn,tmps,assign,body,hy,hR⟩:=hY xs ⟨e,(mem_left he).1⟩ _ hJ3 hxs
   dsimp only at hy
   rw [hk] at hy
   gi_wp2
   ·have hsto:=run_storeCells_new (P:=P) w2 79 A59 cs (by rw [hc33];exact i79) (by rw [hc33];rfl) hone
    simp only [r79.2,Result.andThen,↓reduceIte,hsto]
    rw [Oper.uponIn_skip]
    clear hsto
    gi_wp2
    have hlod:=run_loadCellsFrom_new (P:=P) w2 79 cs 33 hc33
    simp only [r79.1,r79.2,Result.andThen,↓reduceIte,hlod]
    rw [Oper.uponIn_value]
    clear hlod
    gi_wp2
    refine hR.mono ?_
    rintro e3 W3 (⟨rfl,hJ3,hk3⟩ | ⟨rfl,hJx3⟩)
    ·have hit3:W3.heap[W.heap.size]? = some (.mapIter (some bm) clock (seen.push e.born) clock):=hk3.same _ _ ((heap_alloc_old _ _ hlt2).trans hit2) rfl
     have hb3:W3.heap[bm]? = some (.map ms clock):=hk3.same _ _ ((heap_alloc_old _ _ hbm2).trans hb2) rfl
     gi_wp2
     go_roundw
     case rel=>exact ⟨seen.push e.born,xs++[⟨e,(mem_left he).1⟩],hit3,hb3,by
      rw [List.map_append,List.map_cons,List.map_nil]
      exact (List.perm_append_comm.trans (List.Perm.cons _ hse)).trans hf1.symm,hJ3⟩
     case measure =>
      have e1:W3.iterSeen W.heap.size=seen.push e.born:=by unfold World.iterSeen;rw [hit3]
      have e2:wr.iterSeen W.heap.size=seen:=by unfold World.iterSeen;rw [hit]
      rw [e1,e2]
      exact left_shrinks ms seen e he
    ·gi_wp2
     refine bodyPost_ret (results_none rfl _ _ _) rfl ?_
     exact ⟨⟨_,rfl⟩,.inr ⟨_,hJx3⟩⟩
/-! ### Operations whose run is told -/
section
variable {P:Program} {F:Fence} {n:Nat} {ops:Array Oper} {rest:List Oper} {o:Oper} {a:Act} {Q:Go.Exit→Act→World→Prop} {w w':World} {v:Value}
theorem A6K (hg:o.guard=none) (t:TypeId) (x:Operand) (hop:o.op=Op.load t x) (hrun:(Instr.loadAt t (a.eval x)).run P w=.ok v w') (hK:wpListIn F n P ops Q rest (a.put o.dst v) w'):wpListIn F n P ops Q (o::rest) a w:=by
 refine wpListIn_plain hg fun K hK'=>?_
 unfold Oper.wpIn
 refine ⟨by simp [Oper.about,hop],?_⟩
 rw [Oper.semAt_plain F _ _ (by rw [hop];intro c hc;cases hc)]
 simp [execOp,hop,hrun,Result.andThen]
 exact hK' _ _ hK
theorem B7m (hg:o.guard=none) (t:TypeId) (x y:Operand) (hop:o.op=Op.store t x y) (hrun:(Instr.storeAt t (a.eval x) (a.eval y)).run P w=.ok () w') (hK:wpListIn F n P ops Q rest (a.put o.dst undef) w'):wpListIn F n P ops Q (o::rest) a w:=by
 refine wpListIn_plain hg fun K hK'=>?_
 unfold Oper.wpIn
 refine ⟨by simp [Oper.about,hop],?_⟩
 rw [Oper.semAt_plain F _ _ (by rw [hop];intro c hc;cases hc)]
 simp [execOp,hop,hrun,Result.andThen]
 exact hK' _ _ hK
theorem A2k (hg:o.guard=none) (t:TypeId) (x:Operand) (hop:o.op=Op.buildSlice t 1 #[(0,x)]) (hrun:(Instr.buildSlice t 1 #[(0,a.eval x)]).run P w=.ok v w') (hK:wpListIn F n P ops Q rest (a.put o.dst v) w'):wpListIn F n P ops Q (o::rest) a w:=by
 refine wpListIn_plain hg fun K hK'=>?_
 unfold Oper.wpIn
 refine ⟨by simp [Oper.about,hop],?_⟩
 rw [Oper.semAt_plain F _ _ (by rw [hop];intro c hc;cases hc)]
 simp [execOp,hop,hrun,Result.andThen]
 exact hK' _ _ hK
end
def B0D (m:MapEntry):Array Value:=m.key.cells
def cellsOf {ms:Array MapEntry} (xs:List (J7 ms)):List Value:=xs.flatMap fun m=>(B0D m.1).toList
def E08 (p:Prop):Prop:=p
theorem B0E {p:Prop} (h:E08 p):p:=h
theorem C0F {P:Program} (t426:P.underlying 426=some (.slice 79)) (r79:R79 P) {z:Array Value} (hz:z.size=33) (v79:∀ w,(zeroValue 79).run P w=.ok (.agg z) w) (W:World) {cs:Array Value} (hc33:cs.size=33) :
  (Instr.buildSlice 426 1 #[(0,.agg cs)]).run P W=.ok (.slice (some ⟨W.heap.size,0,none⟩) 1 1) (W.alloc (.cells cs 79)):=by
 obtain ⟨cells',g1,g2⟩:=A5X (place:=fun i=>some (i * 33,33)) (i:=0) (off:=0) (size:=33) (cells:=(Array.range (1 * 33)).map (z[· % z.size]!)) (v:=.agg cs) (rest:=[]) rfl hc33 (by simp)
 have e:cells'=cs:=by
  have:cells'.toList=cs.toList:=by
   rw [g2]
   simp [Value.cells]
  exact Array.toList_inj.1 this
 subst e
 have g1:Instr.fill (fun i=>some (i * 33,33)) ((Array.range (1 * 33)).map (z[· % z.size]!)) [(0,.agg cells')]=some cells':=g1
 have hu:=A3 (w:=W) t426
 have hs:=r79.2 W
 have hv:=v79 W
 clear r79 v79
 simp only [Instr.buildSlice,Sem.run_bind,hu,Result.andThen_ok,hs,hv,Sem.run_pure,Value.cells]
 rw [if_neg (by decide),if_neg (by decide)]
 simp only [Sem.run_bind,Sem.run_pure,Result.andThen_ok,hv,Value.cells,g1,newRow]
 rfl
theorem A6L {W W':World} (h:KeepsOthers W W') (hs:W.heap.size≤W'.heap.size):KeepsWalks W W':=⟨hs,fun k o hk ho=>h.same k o hk (Obj.not_cells_of_walk ho)⟩
set_option maxRecDepth 100000 in
set_option maxHeartbeats 1000000 in
theorem C0G {P:Program} (mixed:P.follows .mixedOrders=true) (f334:P.funcs[334]? = some Tryz.f334) (f357:P.funcs[357]? = some Tryz.f357) (e334:∀ args w,(callFunc 334 args).run P w=.ok (.enter 334 args) w)
  (a391:∀ w,(isAgg 391).run P w=.ok false w) (z391:∀ w,(Go.sizeOf 391).run P w=.ok 1 w) (v79:∀ w,(zeroValue 79).run P w=.ok (.agg A59) w) (r79:R79 P) (i79:(P.info? 79).map (·.size)=some 33) (t391:P.underlying 391=some (.map 79 228)) (u391:∀ w,(Go.underlying 391).run P w=.ok (.map 79 228) w)
  (a426:∀ w,(isAgg 426).run P w=.ok false w) (z426:∀ w,(Go.sizeOf 426).run P w=.ok 1 w) (t426:P.underlying 426=some (.slice 79)) (t79:∃ fs,P.underlying 79=some (.struct fs)) (j79:(P.info? 79).map (fun i=>(i.zero,i.size,i.bytes))=some (some (.agg A59),33,36))
  (F:Fence) (n:Nat) (h334:F.fn 334) (h357:F.fn 357) (hro:F.round=none) (hn:2≤n) (Bm bm clock:Nat) (ms:Array MapEntry) (hst:StB ms clock) (hks:∀ m∈ms.toList,∃ cs,m.key=.agg cs∧cs.size=33∧cs.all (·.oneCell')=true) (hlen:ms.size≤1000000)
  (w:World) (hm:w.cell? ⟨Bm,0,none⟩=some (.map (some bm))) (hb:w.heap[bm]? = some (.map ms clock)) :
  CallsIn F n P 357 #[.slice none 0 0,.func (.func 334) #[] #[.pointer (some ⟨Bm,0,none⟩)]] w fun e w'=>∃ (v:Value) (xs:List (J7 ms)),e=.returned v∧(xs.map Subtype.val).Perm ms.toList∧w'.ownsRow w.heap.size 79 33 v xs.length (cellsOf xs)∧(v=.slice none 0 0↔xs=[])∧Below w.heap.size w w':=by
 have h1:1≤n:=by omega
 have hBm:Bm < w.heap.size:=by
  unfold World.cell? at hm
  cases hq:w.heap[Bm]? with
  | none=>simp [hq] at hm
  | some o=>exact (Array.getElem?_eq_some_iff.1 hq).1
 have hbm:bm < w.heap.size:=(Array.getElem?_eq_some_iff.1 hb).1
 obtain ⟨fs79,t79⟩:=t79
 obtain ⟨i0,hi,hz0,hz1,hz2⟩:=info_parts j79
 refine callsIn_of_wp_marks f357 rfl h357 ?_ hro
 simp only [Tryz.ntmps357,List.size_toArray,E1r,List.length_nil,Nat.reduceAdd,Nat.reduceSub,Array.replicate_succ,Array.replicate_zero,List.push_toArray,List.append_toArray,List.nil_append,List.cons_append]
 gi_wp2
 have hs0:(w.alloc (.cells #[.slice none 0 0] 426)).heap.size=w.heap.size+1:=by simp
 have hseq:SeqStopsK F (n - 1) P 334 #[.pointer (some ⟨Bm,0,none⟩)] (fun x:J7 ms=>#[x.1.key]) KeepsWalks (fun xs=>(xs.map Subtype.val).Perm ms.toList) (fun _=>True) ms.size (w.alloc (.cells #[.slice none 0 0] 426)):=by
  intro l J Jx W hW hJ hJx hY h0
  have hm':W.cell? ⟨Bm,0,none⟩=some (.map (some bm)):=(hW.cell (p:=⟨Bm,0,none⟩) (show Bm < _ by rw [hs0];omega)).trans ((World.cell?_of_block (heap_alloc_old _ _ hBm)).trans hm)
  have hb':W.heap[bm]? = some (.map ms clock):=(hW.block bm (by rw [hs0];omega)).trans ((heap_alloc_old _ _ hbm).trans hb)
  refine (E0A mixed f334 a391 z391 v79 r79 i79 t391 u391 F (n - 1) h334 hro (by omega) l Bm bm clock ms hst hks J Jx hY W hJ hm' hb' h0).mono ?_
  rintro e W' ⟨h1,h2 | ⟨pre,h2⟩⟩
  ·exact ⟨h1,.inl h2⟩
  ·exact ⟨h1,.inr ⟨pre,trivial,h2⟩⟩
 have hfl:∀ {W W':World} {row:Option Nat} {Bx:Nat} {cs:Array Value} {t:TypeId},W.heap[Bx]? = some (.cells cs t (0,0))→W.grownBy W' row→(∀ r,row=some r→∃ o:Obj,W.heap[r]? = some o∧o.isCells=false)→W'.heap[Bx]? = some (.cells cs t (0,0)):=by
  intro W W' row Bx cs t hB hg hr
  refine (hg.block Bx (Array.getElem?_eq_some_iff.1 hB).1 (fun e=>?_)).trans hB
  obtain ⟨o,ho,hc⟩:=hr Bx e.symm
  rw [hB] at ho;cases ho;cases hc
 refine wpIn_rangeFunc_ownH hro h1 (gf:=334) (lb:=#[.pointer (some ⟨Bm,0,none⟩)]) rfl h334 e334 hseq walksK_t walksK_b (Below.refl _ _) (fun _=>rfl)
  (fun pre W=>(∃ v,Boxed W w.heap.size 426 v∧W.ownsRow w.heap.size 79 33 v pre.length (cellsOf pre)∧(v=.slice none 0 0↔pre=[]))∧Below w.heap.size w W)
  (fun _ _ _=>False)
  (OwnFrom.and (Own.from (holdsRow_own w.heap.size w.heap.size 426 79 33 (fun pre:List (J7 ms)=>pre.length) (fun pre=>cellsOf pre) (fun pre v=>(v=.slice none 0 0↔pre=[]))) _) (ownFrom_below (Nat.le_refl _) (by rw [hs0];omega)))
  (fun _ _ _ _ _ h _ _=>h)
  ⟨⟨_,Boxed.new w 426 _,World.ownsRow_nil _ _ _ _,by simp⟩,(Below.refl _ w).alloc (Nat.le_refl _) _⟩
  (fun x a' W=>∃ Bx,w.heap.size+1≤Bx∧W.heap[Bx]? = some (.cells (B0D x.1) 79 (0,0))∧a'={ tmps:=#[.slice none 0 0,.func (.func 334) #[] #[.pointer (some ⟨Bm,0,none⟩)],.pointer (some ⟨w.heap.size,0,none⟩),undef,.slice none 0 0,.pointer (some ⟨Bx,0,none⟩),.func (.func 334) #[] #[.pointer (some ⟨Bm,0,none⟩)],.agg (B0D x.1),undef,undef,undef,undef,undef],defers:=[] })
  (fun x a' s W W' row ⟨Bx,h1,h2,h3⟩ hg hr=>⟨Bx,h1,hfl h2 hg (fun r e=>(hr r e).2),h3⟩)
  ?assign ?body ?done ?stop
 case assign =>
  rintro l pre x W K ⟨⟨v,hv,hrow,hnl⟩,hB⟩ hK
  obtain ⟨cs,hk,hc33,hone⟩:=hks x.1 x.2
  have hbs:=hB.size
  have hci:(P.info? 79).map (·.size)=some cs.size:=by rw [hc33];exact i79
  have hcz:A59.size=cs.size:=by rw [hc33];rfl
  have hkc:B0D x.1=cs:=by rw [B0D,hk];rfl
  gi_wp2
  have hsto:=run_storeCells_new (P:=P) W 79 A59 cs hci hcz hone
  simp only [r79.2,Result.andThen,↓reduceIte,hsto]
  rw [Oper.uponIn_skip]
  gi_wp2
  refine hK _ _ ((KeepsOthers.alloc _ _).from _) (KeepsWalks.alloc _ _) ⟨⟨v,hv.alloc _,hrow.alloc _,hnl⟩,hB.alloc hbs _⟩ ⟨W.heap.size,?_,?_,?_⟩
  ·have:=hv.lt;omega
  ·rw [hkc];exact World.alloc_heap_new W _
  ·rw [hkc];rfl
 case body =>
  rintro l pre x a' W hl ⟨r,hr⟩ ⟨⟨v,hv,hrow,hnl⟩,hB⟩ ⟨Bx,hBx,bX,rfl⟩ hlt
  obtain ⟨cs,hk,hc33,hone⟩:=hks x.1 x.2
  have hci:(P.info? 79).map (·.size)=some cs.size:=by rw [hc33];exact i79
  have hkc:B0D x.1=cs:=by rw [B0D,hk];rfl
  rw [hkc] at bX
  have hbs:=hB.size
  have hcl:=hv.cell
  have hl79:(Instr.loadAt 79 (.pointer (some ⟨Bx,0,none⟩))).run P W=.ok (.agg cs) W:=by
   simp only [Instr.loadAt,Instr.sureAddr,Sem.run_bind,Sem.run_pure,Result.andThen]
   exact run_loadVar_row W Bx 79 79 cs (0,0) _ bX t79 rfl hci
  have hml:1000001≤maxLen:=by decide
  have hone':∀ u∈cs.toList,u.oneCell'=true:=by
   intro u hu
   exact (Array.all_eq_true_iff_forall_mem.1 hone) u (Array.mem_toList_iff.1 hu)
  gi_wp2_with (first
   | (refine A6K rfl 79 _ rfl hl79 ?_)
   | (refine A2k rfl 426 _ rfl (C0F t426 r79 rfl v79 _ hc33) ?_)
   | (gi_at_builtin;refine B0E ?_)
   | gi_in)
  show wpListIn _ _ _ _ _ _ _ _
  refine wpListIn_append_own _ rfl _ _ 426 rfl w.heap.size 79 i0 (.agg A59) 33 36 t426 hi hz0 hz1 hz2 rfl (by decide) _ _ _ rfl (hrow.alloc _) ⟨W.heap.size,0,none⟩ 1 1 cs.toList rfl (by rw [E1q,hc33]) ?_ hone' (by omega) (by omega) (by simp;omega) ?_
  ·intro j u hj
   have hadd:(⟨W.heap.size,0,none⟩:Addr).add j=⟨W.heap.size,j,none⟩:=by unfold Addr.add;split<;>simp_all
   rw [hadd,cell_of_row _ _ j cs 79 (0,0) (World.alloc_heap_new W _)]
   simpa using hj
  ·intro v' w1 hown' hgrow hnil
   obtain ⟨g',cap',rfl⟩:=ownsRow_succ hown'
   obtain ⟨hv1,hv2,hr2,hk2,hb2⟩:=hv.appended (by decide) hrow hbs (Nat.le_refl _) hown' hgrow
   have hc1:=hv1.cell
   have hf1:=hv1.frozen
   gi_wp2
   refine ⟨hk2.from _,A6L hk2 hk2.size,⟨_,hv2,?_,by simp⟩,hB.trans hb2⟩
   have e1:(pre++[x]).length=pre.length+1:=by simp
   have e2:cellsOf (pre++[x])=cellsOf pre++cs.toList:=by simp [cellsOf,hkc]
   rw [e1,e2];exact hr2
 case done =>
  rintro D ys W hD hS ⟨⟨v,hv,hrow,hnl⟩,hB⟩ hK
  have hcl:=hv.cell
  gi_wp2
  refine ⟨by simp,.inl ⟨_,_,rfl,run_takeDeferred hK,?_⟩⟩
  exact ⟨_,results_tmp rfl _ _ _,v,ys,rfl,hS,ownsRow_putObj hrow _ hK rfl,hnl,hB.trans (belowK_b (w:=w) (Nat.le_refl _) W D _ _ (by rw [hs0] at hD;omega) hK rfl rfl)⟩
 case stop =>
  rintro D c pre W _ _ h _
  exact h.elim
end Go.Proofs.YtmolbajmaidkfaaGreat
namespace Go.Proofs.YtmolbajmaidkfaaGreat
open Go.RowKit Go.Shelf Go.Vm
set_option linter.unusedVariables false
attribute [local go_sem] Oper.semAt_some
set_option maxRecDepth 100000 in
theorem B7n (Bm bm clock:Nat) (ms:Array MapEntry) (hst:StB ms clock) (hks:∀ m∈ms.toList,∃ cs,m.key=.agg cs∧cs.size=33∧cs.all (·.oneCell')=true) (hlen:ms.size≤1000000)
  (w:World) (hm:w.cell? ⟨Bm,0,none⟩=some (.map (some bm))) (hb:w.heap[bm]? = some (.map ms clock)) :
  Calls Tryz.prog 332 #[.func (.func 334) #[] #[.pointer (some ⟨Bm,0,none⟩)]] w fun e w'=>∃ (v:Value) (xs:List MapEntry),e=.returned v∧xs.Perm ms.toList∧w'.ownsRow w.heap.size 79 33 v xs.length (xs.flatMap fun m=>m.key.cells.toList)∧(v=.slice none 0 0↔xs=[])∧Below w.heap.size w w':=by
 have hap:=(callsIn_wide (n:=6)).1 (C0G (P:=Tryz.prog) (by kernel_rfl) Tryz.func334 Tryz.func357 (enters_of Tryz.func334 (by kernel_rfl) rfl) Tryz.isAgg391 Tryz.sizeOf391 Tryz.zeroValue79 ⟨Tryz.isAgg79,Tryz.sizeOf79⟩ (by kernel_rfl) Tryz.underlying391 Tryz.runUnderlying391
  Tryz.isAgg426 Tryz.sizeOf426 Tryz.underlying426 ⟨_,Tryz.underlying79⟩ (by kernel_rfl) Fence.wide 6 trivial trivial rfl (by omega) Bm bm clock ms hst hks hlen w hm hb)
 go_enter Tryz.func332,Tryz.ntmps332
 go_wp2_with (go_at_call 357;refine hap.mono ?_;rintro e w' ⟨v,xs,rfl,h1,h2,h3,h4⟩)
 go_ret
 refine ⟨_,xs.map Subtype.val,rfl,h1,?_,?_,h4⟩
 ·rw [E1n]
  have:(xs.map Subtype.val).flatMap (fun m=>m.key.cells.toList)=cellsOf xs:=by
   unfold cellsOf B0D
   rw [List.flatMap_map]
  rw [this];exact h2
 ·show v=_↔_;rw [h3];exact List.map_eq_nil_iff.symm
set_option maxRecDepth 100000 in
theorem C0H (w:World) (seq ord:Value) (R1 R2:Value→World→Prop) (h332:Calls Tryz.prog 332 #[seq] w fun e w'=>∃ v,e=.returned v∧R1 v w')
  (h333:∀ v w',R1 v w'→Calls Tryz.prog 333 #[v,ord] w' fun e w''=>(∃ u,e=.returned u)∧R2 v w''):Calls Tryz.prog 292 #[seq,ord] w fun e w'=>∃ v,e=.returned v∧R2 v w':=by
 go_enter Tryz.func292,Tryz.ntmps292
 go_wp2_with (first
  | (go_at_call 332;refine h332.mono ?_;rintro e w' ⟨v,rfl,h⟩)
  | (go_at_call 333;refine (h333 _ _ h).mono ?_;rintro e w'' ⟨⟨u,rfl⟩,h2⟩))
 go_ret
 exact ⟨_,rfl,h2⟩
end Go.Proofs.YtmolbajmaidkfaaGreat
namespace Go.Proofs.YtmolbajmaidkfaaGreat
open Go.Vm Go.RowKit Go.Proofs
set_option maxRecDepth 100000
set_option linter.unusedVariables false
def B2a:V:=.l [bl [90,116,128,178,230,57,32,93,73,103,148,59,139,146,112,133,57,144,64,223,73,174,117,175,23,24,254,51,191,96,247,193],.i 0]
def B43:V:=.l [bl [170,212,103,198,80,92,36,215,62,39,104,25,182,85,121,227,101,138,165,74,90,44,149,194,51,114,53,222,2,177,36,102],.i 0]
def C0I (N:Nat) (wo:List (Nat×Ob)):Option J8→Bool
 | some o=>Nat.ble o.nx N&&(aeq o.val (.t [])&&(B5J o.wo wo&&nlq o.ro [0]))
 | none=>false
theorem B3C {N:Nat} {wo:List (Nat×Ob)} {o:Option J8} (h:C0I N wo o=true):∃ n,n≤N∧o=some (⟨.t [],wo,[0],n⟩:J8):=by
 unfold C0I at h
 split at h
 ·rename_i o
  obtain ⟨v,w,r,n⟩:=o
  simp only [E1k] at h
  obtain ⟨h1,h2,h3,h4⟩:=h
  obtain rfl:=A8K _ _ h2
  obtain rfl:=A8L h3
  obtain rfl:=A4c h4
  exact ⟨n,E1p h1,rfl⟩
 ·cases h
def E0B:List (Nat×H6):=(256,A8p (B91 T 80))::D4L
theorem B3D:P1 Tryz.prog T E0B:=A3S.cons (A8q _) (by rw [A8r];exact B6T (u8:=5) (by kernel_rfl) (by kernel_rfl) Tryz.func256 (by kernel_rfl) (by kernel_rfl) (by kernel_rfl) (by kernel_rfl))
def KB:KC:=A0g Tryz.prog T E0B false 1000 12
theorem hKB:KB.nat:=P2 B3D 12
theorem hSB:KOK Tryz.prog T KB.dir:=Z0 follows D0 B3D 12
theorem E09:(A3Q Tryz.prog T KB (fun _ _=>none) false 1000 333).dir [.o 0 1,.f 294 []] (ofL [.row 79 1 [] true false]) 1=some (⟨.t [],[(0,.row 79 1 [] true false)],[0],1⟩:J8):=by kernel_rfl
theorem E1a (a:V):(A3Q Tryz.prog T KB (fun _ _=>none) false 1000 333).dir [.o 0 1,.f 294 []] (ofL [.row 79 1 [a] false false]) 1=some (⟨.t [],[(0,.row 79 1 [a] false false)],[0],1⟩:J8):=by kernel_rfl
theorem E1b:C0I 100000 [(0,.row 79 1 [B2a,B43] false false)] ((A3Q Tryz.prog T KB (fun _ _=>none) false 1000 333).dir [.o 0 1,.f 294 []] (ofL [.row 79 1 [B2a,B43] false false]) 1)=true:=by kernel_rfl
theorem E1c:C0I 100000 [(0,.row 79 1 [B2a,B43] false false)] ((A3Q Tryz.prog T KB (fun _ _=>none) false 1000 333).dir [.o 0 1,.f 294 []] (ofL [.row 79 1 [B43,B2a] false false]) 1)=true:=by kernel_rfl
theorem C0J:A8g Tryz.prog T 333 (S2.sf2 79 294 100000 B2a B43).dir :=
 S2.sf2_at (B69 follows D0 hKB hSB (A4P (P:=Tryz.prog) (T:=T) (f:=333)).nat A4P.ok) ⟨1,by decide,E09⟩ (fun a=>⟨1,by decide,E1a a⟩) (B3C E1b) (B3C E1c)
theorem D4M {α:Type} {o:Option α} {p:α→Bool} (h:o.any p=true):∃ k,o=some k∧p k=true:=by
 cases o with
 | none=>cases h
 | some k=>exact ⟨k,rfl,h⟩
theorem E0C:S2.SortW Tryz.prog 292 333 334 294 79:=fun Bm bm clock ms w R2 hst hks hlen hm hb h =>
 C0H w _ _ (fun v w'=>∃ xs:List MapEntry,xs.Perm ms.toList∧w'.ownsRow w.heap.size 79 33 v xs.length (xs.flatMap fun m=>m.key.cells.toList)∧(v=.slice none 0 0↔xs=[])∧Below w.heap.size w w') R2
  ((B7n Bm bm clock ms hst hks hlen w hm hb).mono fun e w' ⟨v,xs,h0,h1,h2,h3,h4⟩=>⟨v,h0,xs,h1,h2,h3,h4⟩)
  (fun v w' ⟨xs,h1,h2,h3,h4⟩=>h v xs w' h1 h2 h3 h4)
abbrev B3E:F6:=(S2.sort2K 334 294 79 100000 B2a B43).dir
theorem B2b:B5 Tryz.prog T 292 B3E :=
 S2.sort2K_ok D0 E0C C0J (by decide) (Nat.le_refl _) (by kernel_rfl) (D4M (by kernel_rfl)) (fun args w=>enters_of Tryz.func292 (by kernel_rfl) rfl args w) (fun args w=>enters_of Tryz.func333 (by kernel_rfl) rfl args w)
end Go.Proofs.YtmolbajmaidkfaaGreat
end
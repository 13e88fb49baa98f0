/- What functions compute, and the law run. -/
import Derived.Test.YteoeonfajlnggaaGreatTy
import Derived.Test.YteoeonfajlnggaaGreatVm9
import Derived.Test.YteoeonfajlnggaaGreatVm10
import Derived.Test.YteoeonfajlnggaaGreatVm11
import Derived.Test.YteoeonfajlnggaaGreatVm12
import Derived.Test.YteoeonfajlnggaaGreatProg
import Derived.LoopTactic
import Derived.Shelf.Abstract
set_option linter.constructorNameAsVariable false
set_option linter.unusedVariables false
set_option linter.unusedSimpArgs false
noncomputable section
namespace Go.Proofs.YteoeonfajlnggaaGreat
open Go.Vm
set_option maxRecDepth 100000
set_option linter.unusedVariables false
abbrev nT (f:Nat):Nat:=C7j Tryz.prog f
abbrev cT (f i:Nat):Code:=lp (G7 Tryz.prog f) i
def D5x:List (Nat×D3):=[]
theorem B1a:C7 Tryz.prog T D5x:=C07
def K1:KC:=E4 Tryz.prog T D5x false FU 4
theorem hK1:K1.nat:=A8 B1a 4
theorem hS1:W6 Tryz.prog T K1.dir:=B6 follows B4 B1a 4
def B7B:D2i→Vm.St
 | .m x z i w=>⟨[(0,.v 39 x),(2,.p 0 168 []),(3,.p 1 168 []),(8,.i .i64 i)],(.n (some (.box 168 (.v 168 z) false)) (.n (some (.box 168 (.v 168 w) false)) .e .e) .e),[],2,some []⟩
def D3L (R:Type) (kx:Exit→Vm.St→Option R):D7A→Option R
 | .o x z i w=>kx (.exit 0) { B7B (.m x z i w) with nx:=16 }
def B42:Vm.St→Option D2i
 | ⟨[(0,.v 39 x),(2,.p 0 168 []),(3,.p 1 168 []),(8,.i .i64 i)],(.n (some (.box 168 (.v 168 z) false)) (.n (some (.box 168 (.v 168 w) false)) .e .e) .e),[],2,some []⟩=>some (.m x z i w)
 | _=>none
theorem B9I:J7 B42 B7B:=by
 intro _ _ h
 unfold B42 at h
 split at h<;>first | (cases h;rfl) | cases h
theorem C9K:E7 T K1 (fun _=>none) (nT 117) (cT 117 0) 0 [0,2,3,8] 16 B7B C7n D3L:=by
 intro R of x K kx
 cases x<;>kernel_rfl
def D5y:LS:=D9 T K1 (fun _=>none) (nT 117) (cT 117 0) 0 [0,2,3,8] 16 B42 C7n D3L
theorem B7C:B8 Tryz.prog T (nT 117) 0 (cT 117 0) D5y :=
 B1 follows B4 hK1 hS1 A6 (A1 _) B7B B9I C9K
def B7D:D2j→Vm.St
 | .m z i w=>⟨[(2,.p 0 168 []),(3,.p 1 168 []),(5,.i .i64 i)],(.n (some (.box 168 (.v 168 z) false)) (.n (some (.box 168 (.v 168 w) false)) .e .e) .e),[],2,some []⟩
def D3M (R:Type) (kx:Exit→Vm.St→Option R):D7B→Option R
 | .o z i w=>kx (.exit 2) { B7D (.m z i w) with nx:=16 }
def B43:Vm.St→Option D2j
 | ⟨[(2,.p 0 168 []),(3,.p 1 168 []),(5,.i .i64 i)],(.n (some (.box 168 (.v 168 z) false)) (.n (some (.box 168 (.v 168 w) false)) .e .e) .e),[],2,some []⟩=>some (.m z i w)
 | _=>none
theorem B9J:J7 B43 B7D:=by
 intro _ _ h
 unfold B43 at h
 split at h<;>first | (cases h;rfl) | cases h
theorem C9L:E7 T K1 (fun _=>none) (nT 117) (cT 117 1) 0 [2,3,5] 16 B7D C09 D3M:=by
 intro R of x K kx
 cases x<;>kernel_rfl
def D5z:LS:=D9 T K1 (fun _=>none) (nT 117) (cT 117 1) 0 [2,3,5] 16 B43 C09 D3M
theorem B7E:B8 Tryz.prog T (nT 117) 0 (cT 117 1) D5z :=
 B1 follows B4 hK1 hS1 A6 (A1 _) B7D B9J C9L
def D5A:Nat→LC:=atN 0 [(3,D5y),(8,D5z)]
theorem C9M:F4 Tryz.prog T 117 D5A:=D1 0 (List.forall_mem_cons.2 ⟨B7C.1,List.forall_mem_cons.2 ⟨B7E.1,fun _ h=>by cases h⟩⟩) 2 (by kernel_rfl) ⟨⟨trivial,T9 (s0:=D5y) (by kernel_rfl) B7C⟩,T9 (s0:=D5z) (by kernel_rfl) B7E⟩
def Gsp:FC:=fun R xs k=>match xs with
 | [x]=>B7 (C7n R) (A2 FU) (.m x z64 0 z64) (fun | .o _ z _ w=>B7 (C09 R) (A2 FU) (.m z 16 w) (fun | .o _ _ w=>k [.d 168 w]))
 | _=>none
theorem D5B (R:Type) (x:V) (k:List Rs→Option R):F0 Tryz.prog T K1 D5A false FU 117 R (L6 T [39] [x]) (fun _=>none) 0 (fun out=>ob (P2 T false [.d 168] out) k)=Gsp R [x] k:=by kernel_rfl
def D5C:List (Nat×D3):=(117,H5 T false [39] (Fsp 168))::D5x
theorem B1b:C7 Tryz.prog T D5C:=by
 refine A41 (sh:=false) (rk:=[.d 168]) (d:=4) (fu:=FU) (Lo:=D5A) (G:=Gsp) follows B4 B1a (D2p 168) (by kernel_rfl) C9M (fun R xs k htv=>?_) (fun xs rs htv hrs=>?_)
 ·match xs,htv.len with
  | [x],_=>exact D5B R x k
 ·match xs,htv,htv.len with
  | [x],htv,_ =>
   obtain ⟨e,cs,hx⟩:=htv.head
   obtain ⟨bs,h1,h2⟩:=A8L (T:=T) (el:=5) (kd:=.u8) (by kernel_rfl) (by kernel_rfl) rfl hx
   simp only [Fsp] at hrs
   cases hl:Nat.ble 64 x.els.length with
   | false=>rw [hl] at hrs;cases hrs
   | true =>
    rw [hl] at hrs
    have hl:=E0x hl
    rw [h1,E0v] at hl
    exact (B6s h1 (B8E h2) hl HID (fun w=>some [Rs.d 168 w])).trans hrs
def K2:KC:=E4 Tryz.prog T D5C false FU 4
theorem hK2:K2.nat:=A8 B1b 4
theorem hS2:W6 Tryz.prog T K2.dir:=B6 follows B4 B1b 4
def B7F:D2k→Vm.St
 | .m s z w k x i=>⟨[(2,.p 0 153 []),(4,.p 1 153 []),(5,.p 3 168 []),(6,.p 4 168 []),(7,.p 5 153 []),(18,.i .i64 i)],(.n (some (.box 153 (.v 153 s) false)) (.n (some (.box 153 (.v 153 z) false)) (.n (some (.box 168 (.v 168 w) false)) .e .e) (.n (some (.box 153 (.v 153 x) false)) .e .e)) (.n none (.n (some (.box 168 (.v 168 k) false)) .e .e) .e)),[],6,some []⟩
def D3N (R:Type) (kx:Exit→Vm.St→Option R):D7C→Option R
 | .o s z w k x i=>kx (.exit 0) { B7F (.m s z w k x i) with nx:=16 }
def B44:Vm.St→Option D2k
 | ⟨[(2,.p 0 153 []),(4,.p 1 153 []),(5,.p 3 168 []),(6,.p 4 168 []),(7,.p 5 153 []),(18,.i .i64 i)],(.n (some (.box 153 (.v 153 s) false)) (.n (some (.box 153 (.v 153 z) false)) (.n (some (.box 168 (.v 168 w) false)) .e .e) (.n (some (.box 153 (.v 153 x) false)) .e .e)) (.n none (.n (some (.box 168 (.v 168 k) false)) .e .e) .e)),[],6,some []⟩=>some (.m s z w k x i)
 | _=>none
theorem B9K:J7 B44 B7F:=by
 intro _ _ h
 unfold B44 at h
 split at h<;>first | (cases h;rfl) | cases h
theorem C9N:E7 T K2 (fun _=>none) (nT 105) (cT 105 0) 0 [2,4,5,6,7,18] 16 B7F C7o D3N:=by
 intro R of x K kx
 cases x<;>kernel_rfl
def D5D:LS:=D9 T K2 (fun _=>none) (nT 105) (cT 105 0) 0 [2,4,5,6,7,18] 16 B44 C7o D3N
theorem B7G:B8 Tryz.prog T (nT 105) 0 (cT 105 0) D5D :=
 B1 follows B4 hK2 hS2 A6 (A1 _) B7F B9K C9N
def B7H:D2l→Vm.St
 | .m s z x i=>⟨[(2,.p 0 153 []),(4,.p 1 153 []),(7,.p 5 153 []),(98,.i .i64 i)],(.n (some (.box 153 (.v 153 s) false)) (.n (some (.box 153 (.v 153 z) false)) .e (.n (some (.box 153 (.v 153 x) false)) .e .e)) .e),[],6,some []⟩
def D3O (R:Type) (kx:Exit→Vm.St→Option R):D7D→Option R
 | .o s z x i=>kx (.exit 2) { B7H (.m s z x i) with nx:=16 }
def B45:Vm.St→Option D2l
 | ⟨[(2,.p 0 153 []),(4,.p 1 153 []),(7,.p 5 153 []),(98,.i .i64 i)],(.n (some (.box 153 (.v 153 s) false)) (.n (some (.box 153 (.v 153 z) false)) .e (.n (some (.box 153 (.v 153 x) false)) .e .e)) .e),[],6,some []⟩=>some (.m s z x i)
 | _=>none
theorem B9L:J7 B45 B7H:=by
 intro _ _ h
 unfold B45 at h
 split at h<;>first | (cases h;rfl) | cases h
theorem C9O:E7 T K2 (fun _=>none) (nT 105) (cT 105 1) 0 [2,4,7,98] 16 B7H B6q D3O:=by
 intro R of x K kx
 cases x<;>kernel_rfl
def D5E:LS:=D9 T K2 (fun _=>none) (nT 105) (cT 105 1) 0 [2,4,7,98] 16 B45 B6q D3O
theorem B7I:B8 Tryz.prog T (nT 105) 0 (cT 105 1) D5E :=
 B1 follows B4 hK2 hS2 A6 (A1 _) B7H B9L C9O
def D5F:Nat→LC:=atN 0 [(3,D5D),(11,D5E)]
theorem C9P:F4 Tryz.prog T 105 D5F:=D1 0 (List.forall_mem_cons.2 ⟨B7G.1,List.forall_mem_cons.2 ⟨B7I.1,fun _ h=>by cases h⟩⟩) 2 (by kernel_rfl) ⟨⟨trivial,T9 (s0:=D5D) (by kernel_rfl) B7G⟩,T9 (s0:=D5E) (by kernel_rfl) B7I⟩
def Gmx:FC:=fun R xs k=>match xs with
 | [s,b]=>bif Nat.ble 64 b.els.length then B7 (C7o R) (A2 FU) (.m s z8 (spW b) A3d s 0) (fun | .o s z _ _ x _=>B7 (B6q R) (A2 FU) (.m s z x 0) (fun | .o s _ _ _=>k [.d 153 s])) else none
 | _=>none
theorem D5G (R:Type) (s b:V) (k:List Rs→Option R):F0 Tryz.prog T K2 D5F false FU 105 R (L6 T [153,39] [s,b]) (fun _=>none) 0 (fun out=>ob (P2 T false [.d 153] out) k)=Gmx R [s,b] k:=by kernel_rfl
def D5H:List (Nat×D3):=(105,H5 T false [153,39] (Fmx 153))::D5C
theorem A6w:C7 Tryz.prog T D5H:=by
 refine A41 (sh:=false) (rk:=[.d 153]) (d:=4) (fu:=FU) (Lo:=D5F) (G:=Gmx) follows B4 B1b (D2q 153) (by kernel_rfl) C9P (fun R xs k htv=>?_) (fun xs rs htv hrs=>?_)
 ·match xs,htv.len with
  | [s,b],_=>exact D5G R s b k
 ·match xs,htv,htv.len with
  | [s,b],htv,_ =>
   obtain ⟨e,cs,hs⟩:=htv.head
   obtain ⟨e2,cs2,hx⟩:=htv.tail.head
   obtain ⟨bs,h1,h2⟩:=A8L (T:=T) (el:=5) (kd:=.u8) (by kernel_rfl) (by kernel_rfl) rfl hx
   obtain ⟨ns,rfl,n1,n2⟩:=D7F (T:=T) (n:=8) (el:=23) (kd:=.u32) (by kernel_rfl) (by kernel_rfl) rfl hs
   obtain ⟨s8,hs8,hok⟩:=D7I n1 n2
   rw [hs8] at hrs ⊢
   simp only [Fmx] at hrs
   cases hl:Nat.ble 64 b.els.length with
   | false=>rw [hl] at hrs;cases hrs
   | true =>
    rw [hl] at hrs
    simp only [Gmx,hl,cond_true]
    have hl:=E0x hl
    rw [h1,E0v] at hl
    exact (D2r hok h1 (B8E h2) hl HID (fun w=>some [Rs.d 153 w])).trans hrs
def K3:KC:=E4 Tryz.prog T D5H false FU 4
theorem hK3:K3.nat:=A8 A6w 4
theorem hS3:W6 Tryz.prog T K3.dir:=B6 follows B4 A6w 4
end Go.Proofs.YteoeonfajlnggaaGreat
namespace Go.Proofs.YteoeonfajlnggaaGreat
open Go.Vm
set_option maxRecDepth 100000
set_option linter.unusedVariables false
def B7J:D07→Vm.St
 | .m b xs=>⟨[(0,.v 39 b),(3,.o 1 1)],(.n none (.n (some (.row 5 1 xs false false)) .e .e) .e),[],2,some []⟩
def D3P (R:Type) (kx:Exit→Vm.St→Option R):D6J→Option R
 | .o b xs=>kx (.exit 0) { B7J (.m b xs) with nx:=8 }
def B46:Vm.St→Option D07
 | ⟨[(0,.v 39 b),(3,.o 1 1)],(.n none (.n (some (.row 5 1 xs false false)) .e .e) .e),[],2,some []⟩=>some (.m b xs)
 | _=>none
theorem B9M:J7 B46 B7J:=by
 intro _ _ h
 unfold B46 at h
 split at h<;>first | (cases h;rfl) | cases h
theorem C9Q:E7 T K3 (fun _=>none) (nT 68) (cT 68 0) 0 [0,3] 8 B7J D08 D3P:=by
 intro R of x K kx
 cases x<;>kernel_rfl
def D5I:LS:=D9 T K3 (fun _=>none) (nT 68) (cT 68 0) 0 [0,3] 8 B46 D08 D3P
theorem B7K:B8 Tryz.prog T (nT 68) 0 (cT 68 0) D5I :=
 B1 follows B4 hK3 hS3 A6 (A1 _) B7J B9M C9Q
def D5J:Nat→LC:=atN 0 [(2,D5I)]
theorem C9R:F4 Tryz.prog T 68 D5J:=D1 0 (List.forall_mem_cons.2 ⟨B7K.1,fun _ h=>by cases h⟩) 2 (by kernel_rfl) ⟨⟨trivial,T9 (s0:=D5I) (by kernel_rfl) B7K⟩,loN (by kernel_rfl)⟩
theorem D5K (R:Type) (b:V) (k:List Rs→Option R):F0 Tryz.prog T K3 D5J false FU 68 R (L6 T [39] [b]) (fun _=>none) 0 (fun out=>ob (P2 T false [.r 5] out) k)=Gpd 5 R [b] k:=by kernel_rfl
def D5L:List (Nat×D3):=(68,H5 T false [39] (Fpd 5))::D5H
theorem B1c:C7 Tryz.prog T D5L:=by
 refine A41 (sh:=false) (rk:=[.r 5]) (d:=4) (fu:=FU) (Lo:=D5J) (G:=Gpd 5) follows B4 A6w (D1e 5) (by kernel_rfl) C9R (fun R xs k htv=>?_) (fun xs rs htv hrs=>?_)
 ·match xs,htv.len with
  | [b],_=>exact D5K R b k
 ·match xs,htv.len with
  | [b],_=>exact D6M 5 hrs
def K4:KC:=E4 Tryz.prog T D5L false FU 4
theorem hK4:K4.nat:=A8 B1c 4
theorem hS4:W6 Tryz.prog T K4.dir:=B6 follows B4 B1c 4
def B7L:D09→Vm.St
 | .m z v xs kk at_ ws i=>⟨[(2,.p 0 35 []),(3,.p 1 112 []),(4,.o 2 1),(5,.p 4 113 []),(6,.i .i64 at_),(7,.o 5 1),(8,.i .i64 i)],(.n (some (.box 35 (.v 35 z) false)) (.n (some (.box 112 (.v 112 v) false)) .e (.n (some (.row 98 1 ws false false)) .e .e)) (.n (some (.row 5 1 xs false false)) (.n (some (.box 113 (.v 113 kk) false)) .e .e) .e)),[],6,some []⟩
def D3Q (R:Type) (kx:Exit→Vm.St→Option R):C5F→Option R
 | .o z v xs kk at_ ws i=>kx (.exit 2) { B7L (.m z v xs kk at_ ws i) with nx:=16 }
def B47:Vm.St→Option D09
 | ⟨[(2,.p 0 35 []),(3,.p 1 112 []),(4,.o 2 1),(5,.p 4 113 []),(6,.i .i64 at_),(7,.o 5 1),(8,.i .i64 i)],(.n (some (.box 35 (.v 35 z) false)) (.n (some (.box 112 (.v 112 v) false)) .e (.n (some (.row 98 1 ws false false)) .e .e)) (.n (some (.row 5 1 xs false false)) (.n (some (.box 113 (.v 113 kk) false)) .e .e) .e)),[],6,some []⟩=>some (.m z v xs kk at_ ws i)
 | _=>none
theorem B9N:J7 B47 B7L:=by
 intro _ _ h
 unfold B47 at h
 split at h<;>first | (cases h;rfl) | cases h
theorem C9S:E7 T K4 (fun _=>none) (nT 55) (cT 55 1) 0 [2,3,4,5,6,7,8] 16 B7L B5K D3Q:=by
 intro R of x K kx
 cases x<;>kernel_rfl
def C9T:LS:=D9 T K4 (fun _=>none) (nT 55) (cT 55 1) 0 [2,3,4,5,6,7,8] 16 B47 B5K D3Q
theorem B7M:B8 Tryz.prog T (nT 55) 0 (cT 55 1) C9T :=
 B1 follows B4 hK4 hS4 A6 (A1 _) B7L B9N C9S
def B7N:D1a→Vm.St
 | .m z v xs kk at_ ws x i=>⟨[(2,.p 0 35 []),(3,.p 1 112 []),(4,.o 2 1),(5,.p 4 113 []),(6,.i .i64 at_),(7,.o 5 1),(13,.p 16 112 []),(14,.i .i64 i)],(.n (some (.box 35 (.v 35 z) false)) (.n (some (.box 112 (.v 112 v) false)) .e (.n (some (.row 98 1 ws false false)) .e .e)) (.n (some (.row 5 1 xs false false)) (.n (some (.box 113 (.v 113 kk) false)) (.n none (.n (some (.box 112 (.v 112 x) false)) .e .e) .e) .e) .e)),[],17,some []⟩
def D3R (R:Type) (kx:Exit→Vm.St→Option R):D1b→Option R
 | .o z v xs kk at_ ws x i=>kx (.exit 6) { B7N (.m z v xs kk at_ ws x i) with nx:=32 }
def B48:Vm.St→Option D1a
 | ⟨[(2,.p 0 35 []),(3,.p 1 112 []),(4,.o 2 1),(5,.p 4 113 []),(6,.i .i64 at_),(7,.o 5 1),(13,.p 16 112 []),(14,.i .i64 i)],(.n (some (.box 35 (.v 35 z) false)) (.n (some (.box 112 (.v 112 v) false)) .e (.n (some (.row 98 1 ws false false)) .e .e)) (.n (some (.row 5 1 xs false false)) (.n (some (.box 113 (.v 113 kk) false)) (.n none (.n (some (.box 112 (.v 112 x) false)) .e .e) .e) .e) .e)),[],17,some []⟩=>some (.m z v xs kk at_ ws x i)
 | _=>none
theorem B9O:J7 B48 B7N:=by
 intro _ _ h
 unfold B48 at h
 split at h<;>first | (cases h;rfl) | cases h
theorem C9U:E7 T K4 (fun _=>none) (nT 55) (cT 55 3) 0 [2,3,4,5,6,7,13,14] 32 B7N C5G D3R:=by
 intro R of x K kx
 cases x<;>kernel_rfl
def C9V:LS:=D9 T K4 (fun _=>none) (nT 55) (cT 55 3) 0 [2,3,4,5,6,7,13,14] 32 B48 C5G D3R
theorem B7O:B8 Tryz.prog T (nT 55) 0 (cT 55 3) C9V :=
 B1 follows B4 hK4 hS4 A6 (A1 _) B7N B9O C9U
def B7P:D1c→Vm.St
 | .m z v xs kk at_=>⟨[(2,.p 0 35 []),(3,.p 1 112 []),(4,.o 2 1),(5,.p 4 113 []),(6,.i .i64 at_)],(.n (some (.box 35 (.v 35 z) false)) (.n (some (.box 112 (.v 112 v) false)) .e .e) (.n (some (.row 5 1 xs false false)) (.n (some (.box 113 (.v 113 kk) false)) .e .e) .e)),[],5,some []⟩
def D3S (R:Type) (kx:Exit→Vm.St→Option R):D6K→Option R
 | .o z v xs kk at_=>kx (.exit 0) { B7P (.m z v xs kk at_) with nx:=64 }
def B49:Vm.St→Option D1c
 | ⟨[(2,.p 0 35 []),(3,.p 1 112 []),(4,.o 2 1),(5,.p 4 113 []),(6,.i .i64 at_)],(.n (some (.box 35 (.v 35 z) false)) (.n (some (.box 112 (.v 112 v) false)) .e .e) (.n (some (.row 5 1 xs false false)) (.n (some (.box 113 (.v 113 kk) false)) .e .e) .e)),[],5,some []⟩=>some (.m z v xs kk at_)
 | _=>none
theorem B9P:J7 B49 B7P:=by
 intro _ _ h
 unfold B49 at h
 split at h<;>first | (cases h;rfl) | cases h
theorem C9W:E7 T K4 (loT [(9,C9T),(23,C9V)]) (nT 55) (cT 55 0) 0 [2,3,4,5,6] 64 B7P D1d D3S:=by
 intro R of x K kx
 cases x<;>kernel_rfl
def D5M:LS:=D9 T K4 (loT [(9,C9T),(23,C9V)]) (nT 55) (cT 55 0) 0 [2,3,4,5,6] 64 B49 D1d D3S
theorem B7Q:B8 Tryz.prog T (nT 55) 0 (cT 55 0) D5M :=
 B1 follows B4 hK4 hS4 (A0S (List.forall_mem_cons.2 ⟨B7M.1,List.forall_mem_cons.2 ⟨B7O.1,fun _ h=>by cases h⟩⟩)) (R8 5 (by kernel_rfl) ⟨⟨⟨⟨⟨trivial,T9 (s0:=C9T) (by kernel_rfl) ((show lp (lp (G7 Tryz.prog 55) 0) 0=lp (G7 Tryz.prog 55) 1 from by kernel_rfl) ▸ B7M)⟩,loN (by kernel_rfl)⟩,T9 (s0:=C9V) (by kernel_rfl) ((show lp (lp (G7 Tryz.prog 55) 0) 2=lp (G7 Tryz.prog 55) 3 from by kernel_rfl) ▸ B7O)⟩,loN (by kernel_rfl)⟩,loN (by kernel_rfl)⟩) B7P B9P C9W
def D5N:Nat→LC:=atN 0 [(5,D5M)]
theorem C9X:F4 Tryz.prog T 55 D5N:=D1 0 (List.forall_mem_cons.2 ⟨B7Q.1,fun _ h=>by cases h⟩) 8 (by kernel_rfl) ⟨⟨⟨⟨⟨⟨⟨⟨trivial,T9 (s0:=D5M) (by kernel_rfl) B7Q⟩,loN (by kernel_rfl)⟩,loN (by kernel_rfl)⟩,loN (by kernel_rfl)⟩,loN (by kernel_rfl)⟩,loN (by kernel_rfl)⟩,loN (by kernel_rfl)⟩,loN (by kernel_rfl)⟩
theorem D5O (R:Type) (b:V) (k:List Rs→Option R):F0 Tryz.prog T K4 D5N false FU 55 R (L6 T [39] [b]) (fun _=>none) 0 (fun out=>ob (P2 T false [.d 35] out) k)=Gsm 35 R [b] k:=by kernel_rfl
def D5P:List (Nat×D3):=(55,H5 T false [39] (Fsm 35))::D5L
theorem A6x:C7 Tryz.prog T D5P:=by
 refine A41 (sh:=false) (rk:=[.d 35]) (d:=4) (fu:=FU) (Lo:=D5N) (G:=Gsm 35) follows B4 B1c (D1j 35) (by kernel_rfl) C9X (fun R xs k htv=>?_) (fun xs rs htv hrs=>?_)
 ·match xs,htv.len with
  | [b],_=>exact D5O R b k
 ·match xs,htv,htv.len with
  | [b],htv,_ =>
   obtain ⟨e,cs,hx⟩:=htv.head
   obtain ⟨bs,h1,h2⟩:=A8L (T:=T) (el:=5) (kd:=.u8) (by kernel_rfl) (by kernel_rfl) rfl hx
   exact D6R 35 h1 (B8E h2) hrs
def K5:KC:=E4 Tryz.prog T D5P false FU 4
theorem hK5:K5.nat:=A8 A6x 4
theorem hS5:W6 Tryz.prog T K5.dir:=B6 follows B4 A6x 4
end Go.Proofs.YteoeonfajlnggaaGreat
namespace Go.Proofs.YteoeonfajlnggaaGreat
open Go.RowKit Go.Vm
open Go.ChangeMaps (setBlock)
set_option linter.unusedVariables false
set_option maxRecDepth 1000000 in
theorem D5Q:C6I Tryz.prog 13:=by
 intro Bp bm es clock w hBp hp hb hst hv
 have hbm:bm < w.heap.size:=(Array.getElem?_eq_some_iff.1 hb).1
 have hrg:=run_range_map (P:=Tryz.prog) w 79 _ _ bm es clock Tryz.underlying79 hb
 go_enter Tryz.func13,Tryz.ntmps13
 go_wp2
 go_loopw [3] (fun s wr=>∃ seen:Array Nat,wr.heap[w.heap.size]? = some (.mapIter (some bm) clock seen clock)∧Below w.heap.size w wr∧s=.int .i64 (IntKind.wrap .i64 (V5 es.toList seen))) (fun _ wr=>(leftOf es (wr.iterSeen w.heap.size)).size)
 case atStart=>exact ⟨#[],heap_alloc_new _ _,(Below.refl _ _).alloc (Nat.le_refl _) _,by rw [A4R];rfl⟩
 case round =>
  obtain ⟨seen,hit,hbl,rfl⟩:=hrel
  have hb1:=(hbl.block bm hbm).trans hb
  have hwr:w.heap.size < wr.heap.size:=(Array.getElem?_eq_some_iff.1 hit).1
  rcases run_next_at (P:=Tryz.prog) wr 0 w.heap.size bm clock clock seen es clock hit hb1 hst.1 (Nat.le_refl _) with ⟨h0,hrun⟩ | ⟨e,he,w1,hw1,hrun⟩
  ·have hnx:∀ ty,(Instr.next (.pointer (some ⟨w.heap.size,0,none⟩)) false ty).run Tryz.prog wr=_:=fun _=>hrun
   go_wp2
   go_ret
   refine ⟨?_,hbl⟩
   rw [A4Q _ _ (all_seen es seen h0)];rfl
  ·obtain ⟨n,x1,x2,x3,x4,x5,hval⟩:=hv e (mem_left he).1
   have hw1h:w1.heap=wr.heap:=by rcases hw1 with rfl | rfl<;>rfl
   have hbl1:Below w.heap.size w w1:=by rcases hw1 with rfl | rfl;exact hbl;exact hbl.drew
   have hnx:∀ ty,(Instr.next (.pointer (some ⟨w.heap.size,0,none⟩)) false ty).run Tryz.prog wr=_:=fun _=>hrun
   generalize hw2:setBlock w1 w.heap.size (.mapIter (some bm) clock (seen.push e.born) clock)=w2 at hnx
   have hsz2:w2.heap.size=wr.heap.size:=by rw [← hw2,← hw1h];simp [setBlock]
   have hit2:w2.heap[w.heap.size]? = some (.mapIter (some bm) clock (seen.push e.born) clock):=by
    rw [← hw2];simp [setBlock,hw1h,hwr]
   have hne2:∀ k,k≠w.heap.size→w2.heap[k]? = w1.heap[k]? := fun k hk=>by rw [← hw2];simp [setBlock,Ne.symm hk]
   have hbl2:Below w.heap.size w w2:=hbl1.trans ⟨by rw [← hw2];rfl,by rw [← hw2];rfl,by rw [← hw2];rfl,by rw [hsz2,hw1h];exact Nat.le_refl _,fun k hk=>hne2 k (by omega)⟩
   have hb2:=(hbl2.block bm hbm).trans hb
   have hen:=run_entry_at (P:=Tryz.prog) w2 w.heap.size bm clock seen es clock e hit2 hb2 (mem_left he).1 hst.2
   rw [hval] at hen
   go_wp2
   have hlt2:w.heap.size < w2.heap.size:=by omega
   have B22:∀ (v:World),v.heap[w.heap.size]? = some (.mapIter (some bm) clock (seen.push e.born) clock)→v.iterSeen w.heap.size=seen.push e.born:=fun v hv=>by unfold World.iterSeen;rw [hv]
   have hitW:wr.iterSeen w.heap.size=seen:=by unfold World.iterSeen;rw [hit]
   refine ⟨⟨seen.push e.born,(heap_alloc_old _ _ hlt2).trans hit2,hbl2.alloc (by omega) _,?_⟩,?_⟩
   ·rw [A4P seen e (mem_left he).2 es.toList hst.2 (mem_left he).1,hval]
    show Value.int IntKind.i64 _=_
    congr 1
    show _=IntKind.wrap .i64 (V5 es.toList seen+n)
    rw [C6H,B56]
   ·rw [B22 _ ((heap_alloc_old _ _ hlt2).trans hit2),hitW]
    exact left_shrinks es seen e he
theorem B28:∀ args w,(callFunc 13 args).run Tryz.prog w=.ok (.enter 13 args) w:=Go.Proofs.enters_of Tryz.func13 (by kernel_rfl) rfl
end Go.Proofs.YteoeonfajlnggaaGreat
namespace Go.Proofs.YteoeonfajlnggaaGreat
open Go.Vm
set_option maxRecDepth 100000
set_option linter.unusedVariables false
def C2G:List (Nat×Sym):=[(105,(H5 T false [153,39] (C5M (Fmx 153))).dir),(55,(H5 T false [39] (C5M (Fsm 35))).dir),(79,D1p T 39),(166,B2j),(167,A8B)]
theorem C2H:D1q Tryz.prog T C2G:=⟨C7.see (C7.at A6w (by kernel_rfl)),C7.see (C7.at A6x (by kernel_rfl)),C5O (u8:=5) (by kernel_rfl) (by kernel_rfl) Tryz.func79 (by kernel_rfl) (by kernel_rfl) (by kernel_rfl) (by kernel_rfl),B6b Tryz.func166 (by kernel_rfl) (by kernel_rfl) (by kernel_rfl) (by kernel_rfl),B3Z Tryz.func167 (by kernel_rfl) (by kernel_rfl) (by kernel_rfl) (by kernel_rfl),trivial⟩
theorem B9Q:ob (D1r Tryz.prog T C2G 100000 60 6 (L6 T [] []) (fun _=>none) 0) (fun out=>P2 T true [.d 4] out)=some [.d 4 (.b true)]:=by kernel_rfl
def B5a:D3:=H5 T true [] (gF (fun _=>true) (fun _=>[.d 4 (.b true)]))
theorem B5b:B5a.nat:=B0L (B5L _ _)
theorem D77:J0 Tryz.prog T 6 B5a.dir :=
 B8B (s:=A55 (D1r Tryz.prog T C2G 100000 60 6)) (A3l _) (by rw [A3m];exact D1s follows B4 C2H) (rk:=[.d 4]) (B5L _ _) rfl (fun xs rs htv hrs=>by
  have hl:=htv.len
  cases xs with
  | cons _ _=>cases hl
  | nil =>
   obtain ⟨_,rfl⟩:=D4b hrs
   exact B9Q)
end Go.Proofs.YteoeonfajlnggaaGreat
namespace Go.Proofs.YteoeonfajlnggaaGreat
open Go.Vm
set_option maxRecDepth 100000
set_option linter.unusedVariables false
set_option linter.constructorNameAsVariable false
def C2I:PHi→Vm.St
 | .b s m l xs n i nl sh=>⟨[(0,.p 0 156 []),(6,.v 117 (.l l)),(7,.i .i64 n),(8,.i .i64 i)],(.n (some (.box 156 (.g 156 [.v 153 s,.o 1 1,.i .u64 m]) false)) (.n (some (.row 5 1 xs nl sh)) .e .e) .e),[0],2,some []⟩
 | .c s m l xs n i off q sh=>⟨[(0,.p 0 156 []),(6,.v 117 (.l l)),(7,.i .i64 n),(8,.i .i64 i)],(.n (some (.box 156 (.g 156 [.v 153 s,.w 1 1 off q,.i .u64 m]) false)) (.n (some (.row 5 1 xs false sh)) .e .e) .e),[0],2,some []⟩
def D78 (R:Type) (kx:Exit→Vm.St→Option R):QHi→Option R
 | .b s m l xs n i nl sh=>kx (.exit 2) { C2I (.b s m l xs n i nl sh) with nx:=16 }
 | .c s m l xs n i off q sh=>kx (.exit 2) { C2I (.c s m l xs n i off q sh) with nx:=16 }
def C2J:Vm.St→Option PHi
 | ⟨[(0,.p 0 156 []),(6,.v 117 (.l l)),(7,.i .i64 n),(8,.i .i64 i)],(.n (some (.box 156 (.g 156 [.v 153 s,.o 1 1,.i .u64 m]) false)) (.n (some (.row 5 1 xs nl sh)) .e .e) .e),[0],2,some []⟩=>some (.b s m l xs n i nl sh)
 | ⟨[(0,.p 0 156 []),(6,.v 117 (.l l)),(7,.i .i64 n),(8,.i .i64 i)],(.n (some (.box 156 (.g 156 [.v 153 s,.w 1 1 off q,.i .u64 m]) false)) (.n (some (.row 5 1 xs false sh)) .e .e) .e),[0],2,some []⟩=>some (.c s m l xs n i off q sh)
 | _=>none
theorem C2K:J7 C2J C2I:=by
 intro _ _ h
 unfold C2J at h
 split at h<;>first | (cases h;rfl) | cases h
theorem D5R:E7 T K5 (fun _=>none) (nT 86) (cT 86 1) 1 [0,6,7,8] 16 C2I BHi D78:=by
 intro R of x K kx
 cases x with
 | b _ _ _ _ _ _ nl _=>cases nl<;>kernel_rfl
 | c _ _ _ _ _ _ _ _ _=>kernel_rfl
def HHi:LS:=D9 T K5 (fun _=>none) (nT 86) (cT 86 1) 1 [0,6,7,8] 16 C2J BHi D78
theorem B1d:B8 Tryz.prog T (nT 86) 1 (cT 86 1) HHi :=
 B1 follows B4 hK5 hS5 A6 (A1 _) C2I C2K D5R
def B1e:PHo→Vm.St
 | .a s m l n i=>⟨[(0,.p 0 156 []),(6,.v 117 (.l l)),(7,.i .i64 n),(8,.i .i64 i)],(.n (some (.box 156 (.v 156 (.l [s,.n,.i m])) false)) .e .e),[0],1,some []⟩
 | .b s m l xs n i nl sh=>⟨[(0,.p 0 156 []),(6,.v 117 (.l l)),(7,.i .i64 n),(8,.i .i64 i)],(.n (some (.box 156 (.g 156 [.v 153 s,.o 1 1,.i .u64 m]) false)) (.n (some (.row 5 1 xs nl sh)) .e .e) .e),[0],2,some []⟩
 | .c s m l xs n i off q sh=>⟨[(0,.p 0 156 []),(6,.v 117 (.l l)),(7,.i .i64 n),(8,.i .i64 i)],(.n (some (.box 156 (.g 156 [.v 153 s,.w 1 1 off q,.i .u64 m]) false)) (.n (some (.row 5 1 xs false sh)) .e .e) .e),[0],2,some []⟩
def D79 (R:Type) (kx:Exit→Vm.St→Option R):QHo→Option R
 | .a s m l n i=>kx (.exit 0) { B1e (.a s m l n i) with nx:=64 }
 | .b s m l xs n i nl sh=>kx (.exit 0) { B1e (.b s m l xs n i nl sh) with nx:=64 }
 | .c s m l xs n i off q sh=>kx (.exit 0) { B1e (.c s m l xs n i off q sh) with nx:=64 }
def A6y:Vm.St→Option PHo
 | ⟨[(0,.p 0 156 []),(6,.v 117 (.l l)),(7,.i .i64 n),(8,.i .i64 i)],(.n (some (.box 156 (.v 156 (.l [s,.n,.i m])) false)) .e .e),[0],1,some []⟩=>some (.a s m l n i)
 | _=>none
theorem B5c (τ:Vm.St) (x:PHo) (h:A6y τ=some x):τ=B1e x:=by
 unfold A6y at h
 split at h<;>first | (cases h;rfl) | cases h
def A6z:Vm.St→Option PHo
 | ⟨[(0,.p 0 156 []),(6,.v 117 (.l l)),(7,.i .i64 n),(8,.i .i64 i)],(.n (some (.box 156 (.g 156 [.v 153 s,.o 1 1,.i .u64 m]) false)) (.n (some (.row 5 1 xs nl sh)) .e .e) .e),[0],2,some []⟩=>some (.b s m l xs n i nl sh)
 | _=>none
theorem B5d (τ:Vm.St) (x:PHo) (h:A6z τ=some x):τ=B1e x:=by
 unfold A6z at h
 split at h<;>first | (cases h;rfl) | cases h
def A6A:Vm.St→Option PHo
 | ⟨[(0,.p 0 156 []),(6,.v 117 (.l l)),(7,.i .i64 n),(8,.i .i64 i)],(.n (some (.box 156 (.g 156 [.v 153 s,.w 1 1 off q,.i .u64 m]) false)) (.n (some (.row 5 1 xs false sh)) .e .e) .e),[0],2,some []⟩=>some (.c s m l xs n i off q sh)
 | _=>none
theorem B5e (τ:Vm.St) (x:PHo) (h:A6A τ=some x):τ=B1e x:=by
 unfold A6A at h
 split at h<;>first | (cases h;rfl) | cases h
def C2L (τ:Vm.St):Option PHo:=oc (A6y τ) some (oc (A6z τ) some (oc (A6A τ) some (none)))
theorem C2M (τ:Vm.St) (x:PHo) (h:C2L τ=some x):τ=B1e x:=by
 unfold C2L at h
 cases h0:A6y τ with
 | some y=>rw [h0] at h;cases h;exact B5c τ _ h0
 | none =>
 rw [h0] at h;simp only [oc] at h
 cases h1:A6z τ with
 | some y=>rw [h1] at h;cases h;exact B5d τ _ h1
 | none =>
 rw [h1] at h;simp only [oc] at h
 cases h2:A6A τ with
 | some y=>rw [h2] at h;cases h;exact B5e τ _ h2
 | none =>
 rw [h2] at h;simp only [oc] at h
 cases h
theorem D5S:E7 T K5 (loT [(5,HHi)]) (nT 86) (cT 86 0) 1 [0,6,7,8] 64 B1e BHo D79:=by
 intro R of x K kx
 cases x<;>kernel_rfl
def HHo:LS:=D9 T K5 (loT [(5,HHi)]) (nT 86) (cT 86 0) 1 [0,6,7,8] 64 C2L BHo D79
theorem C2N:B8 Tryz.prog T (nT 86) 1 (cT 86 0) HHo :=
 B1 follows B4 hK5 hS5 (A0S (List.forall_mem_cons.2 ⟨B1d.1,fun _ h=>by cases h⟩)) (R8 1 (by kernel_rfl) ⟨trivial,T9 (s0:=HHi) (by kernel_rfl) ((show lp (lp (G7 Tryz.prog 86) 0) 0=lp (G7 Tryz.prog 86) 1 from by kernel_rfl) ▸ B1d)⟩) B1e C2M D5S
def D3T:Nat→LC:=atN 1 [(1,HHo),(5,HHi)]
theorem C2O:F4 Tryz.prog T 86 D3T:=D1 1 (List.forall_mem_cons.2 ⟨C2N.1,List.forall_mem_cons.2 ⟨B1d.1,fun _ h=>by cases h⟩⟩) 2 (by kernel_rfl) ⟨⟨trivial,T9 (s0:=HHo) (by kernel_rfl) C2N⟩,T9 (s0:=HHi) (by kernel_rfl) B1d⟩
def C2P:PHp→Vm.St
 | .b s m rs nl sh z xs=>⟨[(0,.p 0 156 []),(2,.p 2 35 []),(3,.o 3 1)],(.n (some (.box 156 (.g 156 [.v 153 s,.o 1 1,.i .u64 m]) false)) (.n (some (.row 5 1 rs nl sh)) (.n (some (.row 5 1 xs false false)) .e .e) .e) (.n (some (.box 35 (.v 35 z) false)) .e .e)),[1,0],4,some []⟩
 | .c s m rs off q sh z xs=>⟨[(0,.p 0 156 []),(2,.p 2 35 []),(3,.o 3 1)],(.n (some (.box 156 (.g 156 [.v 153 s,.w 1 1 off q,.i .u64 m]) false)) (.n (some (.row 5 1 rs false sh)) (.n (some (.row 5 1 xs false false)) .e .e) .e) (.n (some (.box 35 (.v 35 z) false)) .e .e)),[1,0],4,some []⟩
def D8a (R:Type) (kx:Exit→Vm.St→Option R):QHp→Option R
 | .b s m rs nl sh z xs=>kx (.exit 0) { C2P (.b s m rs nl sh z xs) with nx:=16 }
 | .c s m rs off q sh z xs=>kx (.exit 0) { C2P (.c s m rs off q sh z xs) with nx:=16 }
def C2Q:Vm.St→Option PHp
 | ⟨[(0,.p 0 156 []),(2,.p 2 35 []),(3,.o 3 1)],(.n (some (.box 156 (.g 156 [.v 153 s,.o 1 1,.i .u64 m]) false)) (.n (some (.row 5 1 rs nl sh)) (.n (some (.row 5 1 xs false false)) .e .e) .e) (.n (some (.box 35 (.v 35 z) false)) .e .e)),[1,0],4,some []⟩=>some (.b s m rs nl sh z xs)
 | ⟨[(0,.p 0 156 []),(2,.p 2 35 []),(3,.o 3 1)],(.n (some (.box 156 (.g 156 [.v 153 s,.w 1 1 off q,.i .u64 m]) false)) (.n (some (.row 5 1 rs false sh)) (.n (some (.row 5 1 xs false false)) .e .e) .e) (.n (some (.box 35 (.v 35 z) false)) .e .e)),[1,0],4,some []⟩=>some (.c s m rs off q sh z xs)
 | _=>none
theorem C2R:J7 C2Q C2P:=by
 intro _ _ h
 unfold C2Q at h
 split at h<;>first | (cases h;rfl) | cases h
theorem D5T:E7 T K5 (fun _=>none) (nT 87) (cT 87 0) 2 [0,2,3] 16 C2P BHp D8a:=by
 intro R of x K kx
 cases x<;>kernel_rfl
def HHp:LS:=D9 T K5 (fun _=>none) (nT 87) (cT 87 0) 2 [0,2,3] 16 C2Q BHp D8a
theorem C2S:B8 Tryz.prog T (nT 87) 2 (cT 87 0) HHp :=
 B1 follows B4 hK5 hS5 A6 (A1 _) C2P C2R D5T
def A7f:PHm→Vm.St
 | .b0 s m rs nl sh z st xs=>⟨[(2,.p 2 35 []),(3,.o 3 1),(6,.p 24 153 [])],(.n (some (.box 156 (.g 156 [.v 153 s,.o 1 1,.i .u64 m]) false)) (.n (some (.row 5 1 rs nl sh)) (.n (some (.row 5 1 xs false false)) .e .e) .e) (.n (some (.box 35 (.v 35 z) false)) (.n none (.n none .e (.n (some (.box 153 (.v 153 st) false)) .e .e)) .e) .e)),[1,0],25,some []⟩
 | .b1 s m rs nl sh z st xs o2 q2=>⟨[(2,.p 2 35 []),(3,.w 3 1 o2 q2),(6,.p 24 153 [])],(.n (some (.box 156 (.g 156 [.v 153 s,.o 1 1,.i .u64 m]) false)) (.n (some (.row 5 1 rs nl sh)) (.n (some (.row 5 1 xs false false)) .e .e) .e) (.n (some (.box 35 (.v 35 z) false)) (.n none (.n none .e (.n (some (.box 153 (.v 153 st) false)) .e .e)) .e) .e)),[1,0],25,some []⟩
 | .c0 s m rs off q sh z st xs=>⟨[(2,.p 2 35 []),(3,.o 3 1),(6,.p 24 153 [])],(.n (some (.box 156 (.g 156 [.v 153 s,.w 1 1 off q,.i .u64 m]) false)) (.n (some (.row 5 1 rs false sh)) (.n (some (.row 5 1 xs false false)) .e .e) .e) (.n (some (.box 35 (.v 35 z) false)) (.n none (.n none .e (.n (some (.box 153 (.v 153 st) false)) .e .e)) .e) .e)),[1,0],25,some []⟩
 | .c1 s m rs off q sh z st xs o2 q2=>⟨[(2,.p 2 35 []),(3,.w 3 1 o2 q2),(6,.p 24 153 [])],(.n (some (.box 156 (.g 156 [.v 153 s,.w 1 1 off q,.i .u64 m]) false)) (.n (some (.row 5 1 rs false sh)) (.n (some (.row 5 1 xs false false)) .e .e) .e) (.n (some (.box 35 (.v 35 z) false)) (.n none (.n none .e (.n (some (.box 153 (.v 153 st) false)) .e .e)) .e) .e)),[1,0],25,some []⟩
def D8b (R:Type) (kx:Exit→Vm.St→Option R):QHm→Option R
 | .b0 s m rs nl sh z st xs=>kx (.exit 4) { A7f (.b0 s m rs nl sh z st xs) with nx:=32 }
 | .b1 s m rs nl sh z st xs o2 q2=>kx (.exit 4) { A7f (.b1 s m rs nl sh z st xs o2 q2) with nx:=32 }
 | .c0 s m rs off q sh z st xs=>kx (.exit 4) { A7f (.c0 s m rs off q sh z st xs) with nx:=32 }
 | .c1 s m rs off q sh z st xs o2 q2=>kx (.exit 4) { A7f (.c1 s m rs off q sh z st xs o2 q2) with nx:=32 }
def A6B:Vm.St→Option PHm
 | ⟨[(2,.p 2 35 []),(3,.o 3 1),(6,.p 24 153 [])],(.n (some (.box 156 (.g 156 [.v 153 s,.o 1 1,.i .u64 m]) false)) (.n (some (.row 5 1 rs nl sh)) (.n (some (.row 5 1 xs false false)) .e .e) .e) (.n (some (.box 35 (.v 35 z) false)) (.n none (.n none .e (.n (some (.box 153 (.v 153 st) false)) .e .e)) .e) .e)),[1,0],25,some []⟩=>some (.b0 s m rs nl sh z st xs)
 | _=>none
theorem B5f (τ:Vm.St) (x:PHm) (h:A6B τ=some x):τ=A7f x:=by
 unfold A6B at h
 split at h<;>first | (cases h;rfl) | cases h
def A6C:Vm.St→Option PHm
 | ⟨[(2,.p 2 35 []),(3,.w 3 1 o2 q2),(6,.p 24 153 [])],(.n (some (.box 156 (.g 156 [.v 153 s,.o 1 1,.i .u64 m]) false)) (.n (some (.row 5 1 rs nl sh)) (.n (some (.row 5 1 xs false false)) .e .e) .e) (.n (some (.box 35 (.v 35 z) false)) (.n none (.n none .e (.n (some (.box 153 (.v 153 st) false)) .e .e)) .e) .e)),[1,0],25,some []⟩=>some (.b1 s m rs nl sh z st xs o2 q2)
 | _=>none
theorem B5g (τ:Vm.St) (x:PHm) (h:A6C τ=some x):τ=A7f x:=by
 unfold A6C at h
 split at h<;>first | (cases h;rfl) | cases h
def A6D:Vm.St→Option PHm
 | ⟨[(2,.p 2 35 []),(3,.o 3 1),(6,.p 24 153 [])],(.n (some (.box 156 (.g 156 [.v 153 s,.w 1 1 off q,.i .u64 m]) false)) (.n (some (.row 5 1 rs false sh)) (.n (some (.row 5 1 xs false false)) .e .e) .e) (.n (some (.box 35 (.v 35 z) false)) (.n none (.n none .e (.n (some (.box 153 (.v 153 st) false)) .e .e)) .e) .e)),[1,0],25,some []⟩=>some (.c0 s m rs off q sh z st xs)
 | _=>none
theorem B5h (τ:Vm.St) (x:PHm) (h:A6D τ=some x):τ=A7f x:=by
 unfold A6D at h
 split at h<;>first | (cases h;rfl) | cases h
def A6E:Vm.St→Option PHm
 | ⟨[(2,.p 2 35 []),(3,.w 3 1 o2 q2),(6,.p 24 153 [])],(.n (some (.box 156 (.g 156 [.v 153 s,.w 1 1 off q,.i .u64 m]) false)) (.n (some (.row 5 1 rs false sh)) (.n (some (.row 5 1 xs false false)) .e .e) .e) (.n (some (.box 35 (.v 35 z) false)) (.n none (.n none .e (.n (some (.box 153 (.v 153 st) false)) .e .e)) .e) .e)),[1,0],25,some []⟩=>some (.c1 s m rs off q sh z st xs o2 q2)
 | _=>none
theorem B5i (τ:Vm.St) (x:PHm) (h:A6E τ=some x):τ=A7f x:=by
 unfold A6E at h
 split at h<;>first | (cases h;rfl) | cases h
def C2T (τ:Vm.St):Option PHm:=oc (A6B τ) some (oc (A6C τ) some (oc (A6D τ) some (oc (A6E τ) some (none))))
theorem C2U (τ:Vm.St) (x:PHm) (h:C2T τ=some x):τ=A7f x:=by
 unfold C2T at h
 cases h0:A6B τ with
 | some y=>rw [h0] at h;cases h;exact B5f τ _ h0
 | none =>
 rw [h0] at h;simp only [oc] at h
 cases h1:A6C τ with
 | some y=>rw [h1] at h;cases h;exact B5g τ _ h1
 | none =>
 rw [h1] at h;simp only [oc] at h
 cases h2:A6D τ with
 | some y=>rw [h2] at h;cases h;exact B5h τ _ h2
 | none =>
 rw [h2] at h;simp only [oc] at h
 cases h3:A6E τ with
 | some y=>rw [h3] at h;cases h;exact B5i τ _ h3
 | none =>
 rw [h3] at h;simp only [oc] at h
 cases h
theorem D5U:E7 T K5 (fun _=>none) (nT 87) (cT 87 2) 2 [2,3,6] 32 A7f BHm D8b:=by
 intro R of x K kx
 cases x<;>kernel_rfl
def HHm:LS:=D9 T K5 (fun _=>none) (nT 87) (cT 87 2) 2 [2,3,6] 32 C2T BHm D8b
theorem C2V:B8 Tryz.prog T (nT 87) 2 (cT 87 2) HHm :=
 B1 follows B4 hK5 hS5 A6 (A1 _) A7f C2U D5U
def D3U:Nat→LC:=atN 2 [(3,HHp),(12,HHm)]
theorem A4m:F4 Tryz.prog T 87 D3U:=D1 2 (List.forall_mem_cons.2 ⟨C2S.1,List.forall_mem_cons.2 ⟨C2V.1,fun _ h=>by cases h⟩⟩) 4 (by kernel_rfl) ⟨⟨⟨⟨trivial,T9 (s0:=HHp) (by kernel_rfl) C2S⟩,loN (by kernel_rfl)⟩,T9 (s0:=HHm) (by kernel_rfl) C2V⟩,loN (by kernel_rfl)⟩
def D8c:List (Nat×D3):=(86,trS (P1 Tryz.prog T K5 D3T false FU 86))::D5P
theorem C9Y:C7 Tryz.prog T D8c:=C7.runP follows B4 A6x C2O
def D5V:List (Nat×D3):=(87,trS (P1 Tryz.prog T K5 D3U false FU 87))::D8c
theorem B1f:C7 Tryz.prog T D5V :=
 C9Y.cons (J8 (M5 hK5 A4m.nat)) (N5 (M5 hK5 A4m.nat) (H0 follows B4 hK5 hS5 A4m.nat A4m.ok).at_)
def K7:KC:=E4 Tryz.prog T D5V false FU 4
theorem hK7:K7.nat:=A8 B1f 4
theorem hS7:W6 Tryz.prog T K7.dir:=B6 follows B4 B1f 4
theorem D5W (l:List V):F0 Tryz.prog T K7 (fun _ _=>none) false FU 72 (List Rs) (L6 T [117] [.l l]) (fun _=>none) 0 (fun out=>P2 T true [.d 35] out)=dsG l (fun x=>some [.d 35 x]):=by kernel_rfl
def D5X:List (Nat×D3):=(72,H5 T true [117] (gF dsg (dsr 35)))::D5V
theorem B1g:C7 Tryz.prog T D5X:=by
 refine D5 (sh:=true) (rk:=[.d 35]) (d:=4) (fu:=FU) (Lo:=(fun _ _=>none)) (ds:=[.slice (.slice (.int .u8))]) follows B4 B1f (by kernel_rfl) C8 40 (by kernel_rfl) (fun xs hd hg=>?_)
 obtain ⟨a,rfl,ha⟩:=Z0 hd
 obtain ⟨l,rfl⟩:=D4k hg
 exact (D5W l).trans (D7k ha hg _)
def K8:KC:=E4 Tryz.prog T D5X false FU 4
theorem hK8:K8.nat:=A8 B1g 4
theorem hS8:W6 Tryz.prog T K8.dir:=B6 follows B4 B1g 4
theorem C9Z (l:List V):F0 Tryz.prog T K8 (fun _ _=>none) false FU 57 (List Rs) (L6 T [117] [.l l]) (fun _=>none) 0 (fun out=>P2 T true [.d 35] out)=bif dsg [.l l] then some [.d 35 (A1n (A0c (A26 l)))] else none:=by kernel_rfl
end Go.Proofs.YteoeonfajlnggaaGreat
namespace Go.Proofs.YteoeonfajlnggaaGreat
open Go.Vm
set_option maxRecDepth 100000
set_option linter.unusedVariables false
set_option linter.constructorNameAsVariable false
def D5Y:List (Nat×D3):=(57,H5 T true [117] (gF dsg (dtr 35)))::D5X
theorem B1h:C7 Tryz.prog T D5Y:=by
 refine D5 (sh:=true) (rk:=[.d 35]) (d:=4) (fu:=FU) (Lo:=(fun _ _=>none)) (ds:=[.slice (.slice (.int .u8))]) follows B4 B1g (by kernel_rfl) C8 40 (by kernel_rfl) (fun xs hd hg=>?_)
 obtain ⟨a,rfl,ha⟩:=Z0 hd
 obtain ⟨l,rfl⟩:=D4k hg
 refine (C9Z l).trans ?_
 rw [hg];rfl
def K9:KC:=E4 Tryz.prog T D5Y false FU 4
theorem hK9:K9.nat:=A8 B1h 4
theorem hS9:W6 Tryz.prog T K9.dir:=B6 follows B4 B1h 4
theorem D5Z (l:List V):F0 Tryz.prog T K9 (fun _ _=>none) false FU 35 (List Rs) (L6 T [39] [.l l]) (fun _=>none) 0 (fun out=>P2 T true [.d 35] out)=bif Nat.ble l.length 1000000000 then some [.d 35 (B1V (B1V (.l l)))] else none:=by kernel_rfl
def C2W:List (Nat×D3):=(35,H5 T true [39] (gF dwg (dwr 35)))::D5Y
theorem A7g:C7 Tryz.prog T C2W:=by
 refine D5 (sh:=true) (rk:=[.d 35]) (d:=4) (fu:=FU) (Lo:=(fun _ _=>none)) (ds:=[.slice (.int .u8)]) follows B4 B1h (by kernel_rfl) C8 40 (by kernel_rfl) (fun xs hd hg=>?_)
 obtain ⟨a,rfl,ha⟩:=Z0 hd
 obtain ⟨l,rfl,hl⟩:=D8Y hg
 refine (D5Z l).trans ?_
 rw [hl]
 show some [Rs.d _ (B1V (B1V (.l l)))]=some [Rs.d _ (A1n (A0c (M1 (.l l))))]
 rw [show B1V (B1V (.l l))=A1n (A0c (M1 (.l l))) by unfold B1V A1n;rw [Z2 (x:=.l _) rfl]]
def K10:KC:=E4 Tryz.prog T C2W false FU 4
theorem D9O:K10.nat:=A8 A7g 4
theorem D9P:W6 Tryz.prog T K10.dir:=B6 follows B4 A7g 4
end Go.Proofs.YteoeonfajlnggaaGreat
namespace Go.Proofs.YteoeonfajlnggaaGreat
open Go.Vm
set_option maxRecDepth 100000
set_option linter.unusedVariables false
set_option linter.constructorNameAsVariable false
theorem C90 (bs:List V) (n:Int):F0 Tryz.prog T K10 (fun _ _=>none) false FU 67 (List Rs) (L6 T [39,98,3] [.l bs,.i n,.i 8]) (fun _=>none) 0 (fun out=>P2 T true [.r 5] out)=(X4 (0+bs.length) <| A9m 8 n bs (fun xs=>some [.r 5 xs false])):=by kernel_rfl
theorem C2X (n:Int):F0 Tryz.prog T K10 (fun _ _=>none) false FU 67 (List Rs) (L6 T [39,98,3] [.n,.i n,.i 8]) (fun _=>none) 0 (fun out=>P2 T true [.r 5] out)=some [.r 5 (leV 8 n) false]:=by kernel_rfl
theorem C91 (bs:List V) (n:Int):F0 Tryz.prog T K10 (fun _ _=>none) false FU 67 (List Rs) (L6 T [39,98,3] [.l bs,.i n,.i 4]) (fun _=>none) 0 (fun out=>P2 T true [.r 5] out)=(X4 (0+bs.length) <| A9m 4 n bs (fun xs=>some [.r 5 xs false])):=by kernel_rfl
theorem C2Y (n:Int):F0 Tryz.prog T K10 (fun _ _=>none) false FU 67 (List Rs) (L6 T [39,98,3] [.n,.i n,.i 4]) (fun _=>none) 0 (fun out=>P2 T true [.r 5] out)=some [.r 5 (leV 4 n) false]:=by kernel_rfl
def C2Z:List (Nat×D3):=(67,H5 T true [39,98,3] (gF A73 (B3x 5)))::C2W
theorem A7h:C7 Tryz.prog T C2Z:=by
 refine D5 (sh:=true) (rk:=[.r 5]) (d:=4) (fu:=FU) (Lo:=(fun _ _=>none)) (ds:=[.slice (.int .u8),.int .u64,.int .i64]) follows B4 A7g (by kernel_rfl) C8 40 (by kernel_rfl) (fun xs hd hg=>?_)
 obtain ⟨a,b,c,rfl,ha,hb,hc⟩:=B0l hd
 obtain ⟨n,rfl,_⟩:=hb
 obtain ⟨s,rfl,_⟩:=hc
 obtain ⟨hs,hg⟩:=D1t hg
 rcases hs with rfl | rfl
 ·
  ·rcases A2w ha with rfl | ⟨ys,rfl⟩
   ·rw [B75];exact C2X n
   ·rw [B75]
    have hl:ys.length≤268435456:=A22 hg
    refine (C90 ys n).trans ?_
    rw [D4 (by omega),A71 _ _ _ _ (by show ys.length+8≤1073741824;omega)];rfl
 ·
  ·rcases A2w ha with rfl | ⟨ys,rfl⟩
   ·rw [B76];exact C2Y n
   ·rw [B76]
    have hl:ys.length≤268435456:=A22 hg
    refine (C91 ys n).trans ?_
    rw [D4 (by omega),A71 _ _ _ _ (by show ys.length+4≤1073741824;omega)];rfl
def K11:KC:=E4 Tryz.prog T C2Z false FU 4
theorem D9Q:K11.nat:=A8 A7h 4
theorem D9R:W6 Tryz.prog T K11.dir:=B6 follows B4 A7h 4
theorem D50 (bs xs:List V):F0 Tryz.prog T K11 (fun _ _=>none) false FU 74 (List Rs) (L6 T [39,117] [.l bs,.l [.l xs]]) (fun _=>none) 0 (fun out=>P2 T true [.r 5] out)=(X4 (0+bs.length) <| C0n bs xs (fun ys=>some [.r 5 ys false])):=by kernel_rfl
theorem C92 (bs:List V):F0 Tryz.prog T K11 (fun _ _=>none) false FU 74 (List Rs) (L6 T [39,117] [.l bs,.l [.n]]) (fun _=>none) 0 (fun out=>P2 T true [.r 5] out)=(X4 (0+bs.length) <| C0n bs [] (fun ys=>some [.r 5 ys false])):=by kernel_rfl
theorem C93 (xs:List V):F0 Tryz.prog T K11 (fun _ _=>none) false FU 74 (List Rs) (L6 T [39,117] [.n,.l [.l xs]]) (fun _=>none) 0 (fun out=>P2 T true [.r 5] out)=(C0n [] xs (fun ys=>some [.r 5 ys false])):=by kernel_rfl
theorem C20  : F0 Tryz.prog T K11 (fun _ _=>none) false FU 74 (List Rs) (L6 T [39,117] [.n,.l [.n]]) (fun _=>none) 0 (fun out=>P2 T true [.r 5] out)=(C0n [] [] (fun ys=>some [.r 5 ys false])):=by kernel_rfl
def C21:List (Nat×D3):=(74,H5 T true [39,117] (gF B3y (D8K 5)))::C2Z
theorem A7i:C7 Tryz.prog T C21:=by
 refine D5 (sh:=true) (rk:=[.r 5]) (d:=4) (fu:=FU) (Lo:=(fun _ _=>none)) (ds:=[.slice (.int .u8),.slice (.slice (.int .u8))]) follows B4 A7h (by kernel_rfl) C8 40 (by kernel_rfl) (fun xs hd hg=>?_)
 obtain ⟨a,b,rfl,ha,hb⟩:=A3Q hd
 rcases hb with rfl | ⟨l,rfl,hl⟩
 ·exact absurd (show false=true from hg) (by decide)
 match l,hl,hg with
 | [x],hl,hg =>
  have hg:=(E0s _ _).mp (show (shb a&&shb x)=true from hg)
  rcases A2w ha with rfl | ⟨ys,rfl⟩<;>rcases A2w (hl x (List.mem_singleton.2 rfl)) with rfl | ⟨zs,rfl⟩
  ·exact (C20).trans (A4C (by simp) (by simp))
  ·
   have hl2:zs.length≤268435456:=A22 hg.2
   refine (C93 zs).trans ?_
   rw [A4C (by simp) (by omega)];rfl
  ·
   have hl1:ys.length≤268435456:=A22 hg.1
   refine (C92 ys ).trans ?_
   rw [D4 (by omega),A4C (by omega) (by simp)];rfl
  ·
   have hl1:ys.length≤268435456:=A22 hg.1
   have hl2:zs.length≤268435456:=A22 hg.2
   refine (D50 ys zs).trans ?_
   rw [D4 (by omega),A4C (by omega) (by omega)];rfl
def K12:KC:=E4 Tryz.prog T C21 false FU 4
theorem D9S:K12.nat:=A8 A7i 4
theorem D9T:W6 Tryz.prog T K12.dir:=B6 follows B4 A7i 4
theorem D51 (bs:List V) (n:Int):F0 Tryz.prog T K12 (fun _ _=>none) false FU 73 (List Rs) (L6 T [39,98] [.l bs,.i n]) (fun _=>none) 0 (fun out=>P2 T true [.r 5] out)=D6T n bs (fun ys=>some [.r 5 ys false]):=by kernel_rfl
theorem C94 (n:Int):F0 Tryz.prog T K12 (fun _ _=>none) false FU 73 (List Rs) (L6 T [39,98] [.n,.i n]) (fun _=>none) 0 (fun out=>P2 T true [.r 5] out)=C5T n [] (fun ys=>some [.r 5 ys false]):=by kernel_rfl
def C22:List (Nat×D3):=(73,H5 T true [39,98] (gF D8L (D8M 5)))::C21
theorem A7j:C7 Tryz.prog T C22:=by
 refine D5 (sh:=true) (rk:=[.r 5]) (d:=4) (fu:=FU) (Lo:=(fun _ _=>none)) (ds:=[.slice (.int .u8),.int .u64]) follows B4 A7i (by kernel_rfl) C8 40 (by kernel_rfl) (fun xs hd hg=>?_)
 obtain ⟨a,b,rfl,ha,hb⟩:=A3Q hd
 obtain ⟨n,rfl,_⟩:=hb
 rcases A2w ha with rfl | ⟨ys,rfl⟩
 ·refine (C94 n).trans ?_
  rw [A72 (by simp)];rfl
 ·have hl:ys.length≤268435456:=A22 hg
  refine (D51 ys n).trans ?_
  rw [C5V (by omega)];rfl
def K13:KC:=E4 Tryz.prog T C22 false FU 4
theorem D9U:K13.nat:=A8 A7j 4
theorem D9V:W6 Tryz.prog T K13.dir:=B6 follows B4 A7j 4
theorem D52 (hs:List V) (n:Int):F0 Tryz.prog T K13 (fun _ _=>none) false FU 64 (List Rs) (L6 T [38] [.l [.l hs,.i n]]) (fun _=>none) 0 (fun out=>P2 T true [.r 5] out)=bif shb (.l ((hs.drop 0).take 32)) then some [.r 5 ((hs.drop 0).take 32++leV 4 (WU n)) false] else none:=by kernel_rfl
def C23:List (Nat×D3):=(64,H5 T true [38] (gF D4c (D4d 5)))::C22
theorem A7k:C7 Tryz.prog T C23:=by
 refine D5 (sh:=true) (rk:=[.r 5]) (d:=4) (fu:=FU) (Lo:=(fun _ _=>none)) (ds:=[.struct [.arr 32 (.int .u8),.int .u32]]) follows B4 A7j (by kernel_rfl) C8 40 (by kernel_rfl) (fun xs hd hg=>?_)
 obtain ⟨a,rfl,ha⟩:=Z0 hd
 obtain ⟨hs,n,rfl,hl,h1,h2⟩:=C5X ha
 obtain ⟨m,rfl⟩:=Int.eq_ofNat_of_zero_le h1
 refine (D52 hs _).trans ?_
 rw [show (hs.drop 0).take 32=hs from List.take_of_length_le (by simp;omega),C9 (by omega),show shb (.l hs)=true from E0B (by show hs.length≤268435456;omega)];rfl
def K14:KC:=E4 Tryz.prog T C23 false FU 4
theorem D9W:K14.nat:=A8 A7k 4
theorem D9X:W6 Tryz.prog T K14.dir:=B6 follows B4 A7k 4
theorem D53 (n:Int):F0 Tryz.prog T K14 (fun _ _=>none) false FU 50 (List Rs) (L6 T [98] [.i n]) (fun _=>none) 0 (fun out=>P2 T true [.r 5] out)=D6S n (fun ys=>some [.r 5 ys false]):=by kernel_rfl
def C24:List (Nat×D3):=(50,H5 T true [98] (gF D8N (D8O 5)))::C23
theorem A7l:C7 Tryz.prog T C24:=by
 refine D5 (sh:=true) (rk:=[.r 5]) (d:=4) (fu:=FU) (Lo:=(fun _ _=>none)) (ds:=[.int .u64]) follows B4 A7k (by kernel_rfl) C8 40 (by kernel_rfl) (fun xs hd hg=>?_)
 obtain ⟨a,rfl,ha⟩:=Z0 hd
 obtain ⟨n,rfl,h1,h2⟩:=ha
 simp only [lo,hi] at h1 h2
 refine (D53 n).trans ?_
 rw [C5U h1 (by omega)];rfl
def K15:KC:=E4 Tryz.prog T C24 false FU 4
theorem D9Y:K15.nat:=A8 A7l 4
theorem D9Z:W6 Tryz.prog T K15.dir:=B6 follows B4 A7l 4
theorem D54 (xs:List V):F0 Tryz.prog T K15 (fun _ _=>none) false FU 52 (List Rs) (L6 T [39] [.l xs]) (fun _=>none) 0 (fun out=>P2 T true [.r 5] out)=(ln xs.length <| X4 ((A0e (WU (xs.length:Nat))).length+xs.length) <| some [.r 5 (A0e (WU (xs.length:Nat))++xs) false]):=by kernel_rfl
theorem C95  : F0 Tryz.prog T K15 (fun _ _=>none) false FU 52 (List Rs) (L6 T [39] [.n]) (fun _=>none) 0 (fun out=>P2 T true [.r 5] out)=some [.r 5 (A0Q []) false]:=by kernel_rfl
def C25:List (Nat×D3):=(52,H5 T true [39] (gF B3A (D8P 5)))::C24
theorem A7m:C7 Tryz.prog T C25:=by
 refine D5 (sh:=true) (rk:=[.r 5]) (d:=4) (fu:=FU) (Lo:=(fun _ _=>none)) (ds:=[.slice (.int .u8)]) follows B4 A7l (by kernel_rfl) C8 40 (by kernel_rfl) (fun xs hd hg=>?_)
 obtain ⟨a,rfl,ha⟩:=Z0 hd
 rcases A2w ha with rfl | ⟨ys,rfl⟩
 ·exact C95
 ·have hl:ys.length≤268435456:=A22 hg
  have hc:=A1e (ys.length:Nat)
  refine (D54 ys).trans ?_
  rw [D8 (by omega),C9 (by omega),D4 (by omega)];rfl
def K16:KC:=E4 Tryz.prog T C25 false FU 4
theorem D90:K16.nat:=A8 A7m 4
theorem D91:W6 Tryz.prog T K16.dir:=B6 follows B4 A7m 4
theorem C96 (n:Int):F0 Tryz.prog T K16 (fun _ _=>none) false FU 49 (List Rs) (L6 T [98,3] [.i n,.i 8]) (fun _=>none) 0 (fun out=>P2 T true [.r 5] out)=some [.r 5 (leD 8 n) false]:=by kernel_rfl
theorem C97 (n:Int):F0 Tryz.prog T K16 (fun _ _=>none) false FU 49 (List Rs) (L6 T [98,3] [.i n,.i 4]) (fun _=>none) 0 (fun out=>P2 T true [.r 5] out)=some [.r 5 (leD 4 n) false]:=by kernel_rfl
def C26:List (Nat×D3):=(49,H5 T true [98,3] (gF C5W (B3z 5)))::C25
theorem A7n:C7 Tryz.prog T C26:=by
 refine D5 (sh:=true) (rk:=[.r 5]) (d:=4) (fu:=FU) (Lo:=(fun _ _=>none)) (ds:=[.int .u64,.int .i64]) follows B4 A7m (by kernel_rfl) C8 40 (by kernel_rfl) (fun xs hd hg=>?_)
 obtain ⟨a,b,rfl,ha,hb⟩:=A3Q hd
 obtain ⟨n,rfl,h1,h2⟩:=ha
 obtain ⟨s,rfl,_⟩:=hb
 simp only [lo,hi] at h1 h2
 rcases D1u hg with rfl | rfl
 ·rw [D1v]
  refine (C96 n).trans ?_
  rw [A4D 8 h1 (by omega)]
 ·rw [D1w]
  refine (C97 n).trans ?_
  rw [A4D 4 h1 (by omega)]
def K17:KC:=E4 Tryz.prog T C26 false FU 4
theorem D92:K17.nat:=A8 A7n 4
theorem D93:W6 Tryz.prog T K17.dir:=B6 follows B4 A7n 4
theorem D55 (hs:List V) (n:Int):F0 Tryz.prog T K17 (fun _ _=>none) false FU 51 (List Rs) (L6 T [38] [.l [.l hs,.i n]]) (fun _=>none) 0 (fun out=>P2 T true [.r 5] out)=(X4 (0+((hs.drop 0).take 32).length) <| X4 (((hs.drop 0).take 32).length+4) <| some [.r 5 ((hs.drop 0).take 32++leV 4 (WU n)) false]):=by kernel_rfl
def C27:List (Nat×D3):=(51,H5 T true [38] (gF D4c (D4d 5)))::C26
theorem A7o:C7 Tryz.prog T C27:=by
 refine D5 (sh:=true) (rk:=[.r 5]) (d:=4) (fu:=FU) (Lo:=(fun _ _=>none)) (ds:=[.struct [.arr 32 (.int .u8),.int .u32]]) follows B4 A7n (by kernel_rfl) C8 40 (by kernel_rfl) (fun xs hd hg=>?_)
 obtain ⟨a,rfl,ha⟩:=Z0 hd
 obtain ⟨hs,n,rfl,hl,h1,h2⟩:=C5X ha
 obtain ⟨m,rfl⟩:=Int.eq_ofNat_of_zero_le h1
 refine (D55 hs _).trans ?_
 rw [show (hs.drop 0).take 32=hs from List.take_of_length_le (by simp;omega),C9 (by omega),D4 (by omega),D4 (by omega)];rfl
def K18:KC:=E4 Tryz.prog T C27 false FU 4
theorem D8d:K18.nat:=A8 A7o 4
theorem D8e:W6 Tryz.prog T K18.dir:=B6 follows B4 A7o 4
end Go.Proofs.YteoeonfajlnggaaGreat
namespace Go.Proofs.YteoeonfajlnggaaGreat
open Go.Vm
set_option maxRecDepth 100000
set_option linter.unusedVariables false
set_option linter.constructorNameAsVariable false
def C98:PTi→Vm.St
 | .m t l bs n i=>⟨[(1,.p 0 27 []),(3,.o 1 1),(18,.v 24 l),(19,.i .i64 n),(20,.i .i64 i)],(.n (some (.box 27 (.v 27 t) false)) (.n (some (.row 5 1 bs false false)) .e .e) .e),[],2,some []⟩
def D8f (R:Type) (kx:Exit→Vm.St→Option R):QTi→Option R
 | .o t l bs n i=>kx (.exit 0) { C98 (.m t l bs n i) with nx:=64 }
def C28:Vm.St→Option PTi
 | ⟨[(1,.p 0 27 []),(3,.o 1 1),(18,.v 24 l),(19,.i .i64 n),(20,.i .i64 i)],(.n (some (.box 27 (.v 27 t) false)) (.n (some (.row 5 1 bs false false)) .e .e) .e),[],2,some []⟩=>some (.m t l bs n i)
 | _=>none
theorem C29:J7 C28 C98:=by
 intro _ _ h
 unfold C28 at h
 split at h<;>first | (cases h;rfl) | cases h
theorem D56:E7 T K18 (fun _=>none) (nT 58) (cT 58 0) 0 [999999,1,3,18,19,20] 64 C98 BTi D8f:=by
 intro R of x K kx
 cases x<;>kernel_rfl
def HTi:LS:=D9 T K18 (fun _=>none) (nT 58) (cT 58 0) 0 [999999,1,3,18,19,20] 64 C28 BTi D8f
theorem C3a:B8 Tryz.prog T (nT 58) 0 (cT 58 0) HTi :=
 B1 follows B4 D8d D8e A6 (A1 _) C98 C29 D56
def C99:PTo→Vm.St
 | .m t l bs n i=>⟨[(1,.p 0 27 []),(3,.o 1 1),(46,.v 25 l),(47,.i .i64 n),(48,.i .i64 i)],(.n (some (.box 27 (.v 27 t) false)) (.n (some (.row 5 1 bs false false)) .e .e) .e),[],2,some []⟩
def D8g (R:Type) (kx:Exit→Vm.St→Option R):QTo→Option R
 | .o t l bs n i=>kx (.exit 2) { C99 (.m t l bs n i) with nx:=128 }
def C3b:Vm.St→Option PTo
 | ⟨[(1,.p 0 27 []),(3,.o 1 1),(46,.v 25 l),(47,.i .i64 n),(48,.i .i64 i)],(.n (some (.box 27 (.v 27 t) false)) (.n (some (.row 5 1 bs false false)) .e .e) .e),[],2,some []⟩=>some (.m t l bs n i)
 | _=>none
theorem C3c:J7 C3b C99:=by
 intro _ _ h
 unfold C3b at h
 split at h<;>first | (cases h;rfl) | cases h
theorem D57:E7 T K18 (fun _=>none) (nT 58) (cT 58 1) 0 [999999,1,3,46,47,48] 128 C99 BTo D8g:=by
 intro R of x K kx
 cases x<;>kernel_rfl
def HTo:LS:=D9 T K18 (fun _=>none) (nT 58) (cT 58 1) 0 [999999,1,3,46,47,48] 128 C3b BTo D8g
theorem C3d:B8 Tryz.prog T (nT 58) 0 (cT 58 1) HTo :=
 B1 follows B4 D8d D8e A6 (A1 _) C99 C3c D57
def D58:Nat→LC:=atN 0 [(3,HTi),(10,HTo)]
theorem D0a:F4 Tryz.prog T 58 D58:=D1 0 (List.forall_mem_cons.2 ⟨C3a.1,List.forall_mem_cons.2 ⟨C3d.1,fun _ h=>by cases h⟩⟩) 2 (by kernel_rfl) ⟨⟨trivial,T9 (s0:=HTi) (by kernel_rfl) C3a⟩,T9 (s0:=HTo) (by kernel_rfl) C3d⟩
theorem D0b (v u:Int) (a b:V):F0 Tryz.prog T K18 D58 false FU 58 (List Rs) (L6 T [27] [.l [.i v,a,b,.i u]]) (fun _=>none) 0 (fun out=>P2 T true [.r 5] out)=txW v u a b (fun xs=>some [.r 5 xs false]):=by kernel_rfl
def C3e:List (Nat×D3):=(58,H5 T true [27] (gF txg (txr 5)))::C27
theorem A7p:C7 Tryz.prog T C3e:=by
 refine D5 (sh:=true) (rk:=[.r 5]) (d:=4) (fu:=FU) (Lo:=D58) (ds:=[DTx]) follows B4 A7o (by kernel_rfl) D0a 40 (by kernel_rfl) (fun xs hd hg=>?_)
 obtain ⟨a,rfl,ha⟩:=Z0 hd
 obtain ⟨v,x,y,u,rfl,_,hx,hy,_⟩:=A9t ha
 exact (D0b v u x y).trans (B8q _ hx hy hg).1
def K19:KC:=E4 Tryz.prog T C3e false FU 4
theorem D8h:K19.nat:=A8 A7p 4
theorem D8i:W6 Tryz.prog T K19.dir:=B6 follows B4 A7p 4
def D0c:PXi→Vm.St
 | .m t l bs n i=>⟨[(1,.p 0 27 []),(3,.o 1 1),(20,.v 24 l),(21,.i .i64 n),(22,.i .i64 i)],(.n (some (.box 27 (.v 27 t) false)) (.n (some (.row 5 1 bs false false)) .e .e) .e),[],2,some []⟩
def D8j (R:Type) (kx:Exit→Vm.St→Option R):QXi→Option R
 | .o t l bs n i=>kx (.exit 0) { D0c (.m t l bs n i) with nx:=64 }
def C3f:Vm.St→Option PXi
 | ⟨[(1,.p 0 27 []),(3,.o 1 1),(20,.v 24 l),(21,.i .i64 n),(22,.i .i64 i)],(.n (some (.box 27 (.v 27 t) false)) (.n (some (.row 5 1 bs false false)) .e .e) .e),[],2,some []⟩=>some (.m t l bs n i)
 | _=>none
theorem C3g:J7 C3f D0c:=by
 intro _ _ h
 unfold C3f at h
 split at h<;>first | (cases h;rfl) | cases h
theorem D59:E7 T K19 (fun _=>none) (nT 31) (cT 31 0) 0 [999999,1,3,20,21,22] 64 D0c BXi D8j:=by
 intro R of x K kx
 cases x<;>kernel_rfl
def HXi:LS:=D9 T K19 (fun _=>none) (nT 31) (cT 31 0) 0 [999999,1,3,20,21,22] 64 C3f BXi D8j
theorem C3h:B8 Tryz.prog T (nT 31) 0 (cT 31 0) HXi :=
 B1 follows B4 D8h D8i A6 (A1 _) D0c C3g D59
def D0d:PXo→Vm.St
 | .m t l bs n i=>⟨[(1,.p 0 27 []),(3,.o 1 1),(51,.v 25 l),(52,.i .i64 n),(53,.i .i64 i)],(.n (some (.box 27 (.v 27 t) false)) (.n (some (.row 5 1 bs false false)) .e .e) .e),[],2,some []⟩
def D8k (R:Type) (kx:Exit→Vm.St→Option R):QXo→Option R
 | .o t l bs n i=>kx (.exit 2) { D0d (.m t l bs n i) with nx:=128 }
def C3i:Vm.St→Option PXo
 | ⟨[(1,.p 0 27 []),(3,.o 1 1),(51,.v 25 l),(52,.i .i64 n),(53,.i .i64 i)],(.n (some (.box 27 (.v 27 t) false)) (.n (some (.row 5 1 bs false false)) .e .e) .e),[],2,some []⟩=>some (.m t l bs n i)
 | _=>none
theorem C3j:J7 C3i D0d:=by
 intro _ _ h
 unfold C3i at h
 split at h<;>first | (cases h;rfl) | cases h
theorem D6a:E7 T K19 (fun _=>none) (nT 31) (cT 31 1) 0 [999999,1,3,51,52,53] 128 D0d BXo D8k:=by
 intro R of x K kx
 cases x<;>kernel_rfl
def HXo:LS:=D9 T K19 (fun _=>none) (nT 31) (cT 31 1) 0 [999999,1,3,51,52,53] 128 C3i BXo D8k
theorem C3k:B8 Tryz.prog T (nT 31) 0 (cT 31 1) HXo :=
 B1 follows B4 D8h D8i A6 (A1 _) D0d C3j D6a
def D6b:Nat→LC:=atN 0 [(4,HXi),(12,HXo)]
theorem D0e:F4 Tryz.prog T 31 D6b:=D1 0 (List.forall_mem_cons.2 ⟨C3h.1,List.forall_mem_cons.2 ⟨C3k.1,fun _ h=>by cases h⟩⟩) 2 (by kernel_rfl) ⟨⟨trivial,T9 (s0:=HXi) (by kernel_rfl) C3h⟩,T9 (s0:=HXo) (by kernel_rfl) C3k⟩
theorem D0f (v u:Int) (a b:V):F0 Tryz.prog T K19 D6b false FU 31 (List Rs) (L6 T [27] [.l [.i v,a,b,.i u]]) (fun _=>none) 0 (fun out=>P2 T true [.r 5] out)=txD v u a b (fun xs=>some [.r 5 xs false]):=by kernel_rfl
def C3l:List (Nat×D3):=(31,H5 T true [27] (gF txg (txr 5)))::C3e
theorem A7q:C7 Tryz.prog T C3l:=by
 refine D5 (sh:=true) (rk:=[.r 5]) (d:=4) (fu:=FU) (Lo:=D6b) (ds:=[DTx]) follows B4 A7p (by kernel_rfl) D0e 40 (by kernel_rfl) (fun xs hd hg=>?_)
 obtain ⟨a,rfl,ha⟩:=Z0 hd
 obtain ⟨v,x,y,u,rfl,_,hx,hy,_⟩:=A9t ha
 exact (D0f v u x y).trans (B8q _ hx hy hg).2
def K20:KC:=E4 Tryz.prog T C3l false FU 4
theorem D94:K20.nat:=A8 A7q 4
theorem D95:W6 Tryz.prog T K20.dir:=B6 follows B4 A7q 4
theorem C3m (t:V):F0 Tryz.prog T K20 (fun _ _=>none) false FU 39 (List Rs) (L6 T [27] [t]) (fun _=>none) 0 (fun out=>P2 T true [.d 35] out)=C6N 35 t:=by kernel_rfl
def C3n:List (Nat×D3):=(39,H5 T true [27] (gF txg (D1Z 35)))::C3l
theorem A7r:C7 Tryz.prog T C3n:=by
 refine D5 (sh:=true) (rk:=[.d 35]) (d:=4) (fu:=FU) (Lo:=(fun _ _=>none)) (ds:=[DTx]) follows B4 A7q (by kernel_rfl) C8 40 (by kernel_rfl) (fun xs hd hg=>?_)
 obtain ⟨a,rfl,ha⟩:=Z0 hd
 exact (C3m a).trans (B8s ha hg).1
def K21:KC:=E4 Tryz.prog T C3n false FU 4
theorem D96:K21.nat:=A8 A7r 4
theorem D97:W6 Tryz.prog T K21.dir:=B6 follows B4 A7r 4
theorem C3o (t:V):F0 Tryz.prog T K21 (fun _ _=>none) false FU 12 (List Rs) (L6 T [27] [t]) (fun _=>none) 0 (fun out=>P2 T true [.d 35] out)=C6O 35 t:=by kernel_rfl
def C3p:List (Nat×D3):=(12,H5 T true [27] (gF txg (D1Z 35)))::C3n
theorem A7s:C7 Tryz.prog T C3p:=by
 refine D5 (sh:=true) (rk:=[.d 35]) (d:=4) (fu:=FU) (Lo:=(fun _ _=>none)) (ds:=[DTx]) follows B4 A7r (by kernel_rfl) C8 40 (by kernel_rfl) (fun xs hd hg=>?_)
 obtain ⟨a,rfl,ha⟩:=Z0 hd
 exact (C3o a).trans (B8s ha hg).2
def K22:KC:=E4 Tryz.prog T C3p false FU 4
theorem D98:K22.nat:=A8 A7s 4
theorem D99:W6 Tryz.prog T K22.dir:=B6 follows B4 A7s 4
end Go.Proofs.YteoeonfajlnggaaGreat
namespace Go.Proofs.YteoeonfajlnggaaGreat
open Go.Vm
set_option maxRecDepth 100000
set_option linter.unusedVariables false
set_option linter.constructorNameAsVariable false
theorem D6c (v h:Int) (k:V) (q:Bool):F0 Tryz.prog T K22 (fun _ _=>none) false FU 34 (List Rs) (L6 T [43] [.l [.l [.i v,k],.i h,.b q]]) (fun _=>none) 0 (fun out=>P2 T true [.d 43] out)=cpG 43 v h k q:=by kernel_rfl
def C3q:List (Nat×D3):=(34,H5 T true [43] (gF cpg (cpr 43)))::C3p
theorem A7t:C7 Tryz.prog T C3q:=by
 refine D5 (sh:=true) (rk:=[.d 43]) (d:=4) (fu:=FU) (Lo:=(fun _ _=>none)) (ds:=[B78]) follows B4 A7s (by kernel_rfl) C8 40 (by kernel_rfl) (fun xs hd hg=>?_)
 obtain ⟨a,rfl,ha⟩:=Z0 hd
 obtain ⟨v,k,h,q,rfl,_,hk,_⟩:=A6q ha
 exact (D6c v h k q).trans (C83 hk hg)
def K23:KC:=E4 Tryz.prog T C3q false FU 4
theorem E0a:K23.nat:=A8 A7t 4
theorem E0b:W6 Tryz.prog T K23.dir:=B6 follows B4 A7t 4
theorem D0g (v u:Int) (x y:V):F0 Tryz.prog T K23 (fun _ _=>none) false FU 38 (List Rs) (L6 T [27] [.l [.i v,x,y,.i u]]) (fun _=>none) 0 (fun out=>P2 T true [.d 4] out)=bsG 4 x:=by kernel_rfl
def C3r:List (Nat×D3):=(38,H5 T true [27] (gF bsg (bsr 4)))::C3q
theorem A7u:C7 Tryz.prog T C3r:=by
 refine D5 (sh:=true) (rk:=[.d 4]) (d:=4) (fu:=FU) (Lo:=(fun _ _=>none)) (ds:=[DTx]) follows B4 A7t (by kernel_rfl) C8 40 (by kernel_rfl) (fun xs hd hg=>?_)
 obtain ⟨a,rfl,ha⟩:=Z0 hd
 obtain ⟨v,x,y,u,rfl,_⟩:=A9t ha
 exact (D0g v u x y).trans (C1M hg)
def K24:KC:=E4 Tryz.prog T C3r false FU 4
theorem E0c:K24.nat:=A8 A7u 4
theorem E0d:W6 Tryz.prog T K24.dir:=B6 follows B4 A7u 4
theorem D0h (v u:Int) (x y:V):F0 Tryz.prog T K24 (fun _ _=>none) false FU 10 (List Rs) (L6 T [27] [.l [.i v,x,y,.i u]]) (fun _=>none) 0 (fun out=>P2 T true [.d 4] out)=bsG 4 x:=by kernel_rfl
def C3s:List (Nat×D3):=(10,H5 T true [27] (gF bsg (bsr 4)))::C3r
theorem A7v:C7 Tryz.prog T C3s:=by
 refine D5 (sh:=true) (rk:=[.d 4]) (d:=4) (fu:=FU) (Lo:=(fun _ _=>none)) (ds:=[DTx]) follows B4 A7u (by kernel_rfl) C8 40 (by kernel_rfl) (fun xs hd hg=>?_)
 obtain ⟨a,rfl,ha⟩:=Z0 hd
 obtain ⟨v,x,y,u,rfl,_⟩:=A9t ha
 exact (D0h v u x y).trans (C1M hg)
def K25:KC:=E4 Tryz.prog T C3s false FU 4
theorem D9s:K25.nat:=A8 A7v 4
theorem D9t:W6 Tryz.prog T K25.dir:=B6 follows B4 A7v 4
def D0i:PSc→Vm.St
 | .m l s n i=>⟨[(2,.i .i64 0),(3,.i .i64 0),(4,.i .i64 s),(7,.v 25 l),(8,.i .i64 n),(9,.i .i64 i)],.e,[],0,some []⟩
def D8l (R:Type) (kx:Exit→Vm.St→Option R):QSc→Option R
 | .o l s n i=>kx (.exit 0) { D0i (.m l s n i) with nx:=64 }
 | .r l s n i=>kx (.ret) ⟨[(2,.i .i64 0),(3,.i .i64 91),(4,.i .i64 s),(7,.v 25 l),(8,.i .i64 n),(9,.i .i64 i)],.e,[],64,some []⟩
def C3t:Vm.St→Option PSc
 | ⟨[(2,.i .i64 0),(3,.i .i64 0),(4,.i .i64 s),(7,.v 25 l),(8,.i .i64 n),(9,.i .i64 i)],.e,[],0,some []⟩=>some (.m l s n i)
 | _=>none
theorem C3u:J7 C3t D0i:=by
 intro _ _ h
 unfold C3t at h
 split at h<;>first | (cases h;rfl) | cases h
theorem D6d:E7 T K25 (fun _=>none) (nT 37) (cT 37 0) 0 [999999,2,3,4,7,8,9] 64 D0i BSc D8l:=by
 intro R of x K kx
 cases x<;>kernel_rfl
def HSc:LS:=D9 T K25 (fun _=>none) (nT 37) (cT 37 0) 0 [999999,2,3,4,7,8,9] 64 C3t BSc D8l
theorem C3v:B8 Tryz.prog T (nT 37) 0 (cT 37 0) HSc :=
 B1 follows B4 D9s D9t A6 (A1 _) D0i C3u D6d
def D6e:Nat→LC:=atN 0 [(3,HSc)]
theorem D0j:F4 Tryz.prog T 37 D6e:=D1 0 (List.forall_mem_cons.2 ⟨C3v.1,fun _ h=>by cases h⟩) 1 (by kernel_rfl) ⟨trivial,T9 (s0:=HSc) (by kernel_rfl) C3v⟩
theorem D6f (l:V):F0 Tryz.prog T K25 D6e false FU 37 (List Rs) (L6 T [25] [l]) (fun _=>none) 0 (fun out=>P2 T true [.d 2,.d 48] out)=smC l (fun s e=>some [.d 2 (.i s),.d 48 (.i e)]):=by kernel_rfl
def C3w:List (Nat×D3):=(37,H5 T true [25] (gF smg (smr 2 48)))::C3s
theorem A7w:C7 Tryz.prog T C3w:=by
 refine D5 (sh:=true) (rk:=[.d 2,.d 48]) (d:=4) (fu:=FU) (Lo:=D6e) (ds:=[.slice B2b]) follows B4 A7v (by kernel_rfl) D0j 40 (by kernel_rfl) (fun xs hd hg=>?_)
 obtain ⟨a,rfl,ha⟩:=Z0 hd
 exact (D6f a).trans (B7b _ ha hg).1
def K26:KC:=E4 Tryz.prog T C3w false FU 4
theorem D9u:K26.nat:=A8 A7w 4
theorem D9v:W6 Tryz.prog T K26.dir:=B6 follows B4 A7w 4
def D0k:PSd→Vm.St
 | .m l s n i=>⟨[(2,.i .i64 0),(3,.i .i64 0),(4,.i .i64 s),(7,.v 25 l),(8,.i .i64 n),(9,.i .i64 i)],.e,[],0,some []⟩
def D8m (R:Type) (kx:Exit→Vm.St→Option R):QSd→Option R
 | .o l s n i=>kx (.exit 0) { D0k (.m l s n i) with nx:=64 }
 | .r l s n i=>kx (.ret) ⟨[(2,.i .i64 0),(3,.i .i64 91),(4,.i .i64 s),(7,.v 25 l),(8,.i .i64 n),(9,.i .i64 i)],.e,[],64,some []⟩
def C3x:Vm.St→Option PSd
 | ⟨[(2,.i .i64 0),(3,.i .i64 0),(4,.i .i64 s),(7,.v 25 l),(8,.i .i64 n),(9,.i .i64 i)],.e,[],0,some []⟩=>some (.m l s n i)
 | _=>none
theorem C3y:J7 C3x D0k:=by
 intro _ _ h
 unfold C3x at h
 split at h<;>first | (cases h;rfl) | cases h
theorem D6g:E7 T K26 (fun _=>none) (nT 32) (cT 32 0) 0 [999999,2,3,4,7,8,9] 64 D0k BSd D8m:=by
 intro R of x K kx
 cases x<;>kernel_rfl
def HSd:LS:=D9 T K26 (fun _=>none) (nT 32) (cT 32 0) 0 [999999,2,3,4,7,8,9] 64 C3x BSd D8m
theorem C3z:B8 Tryz.prog T (nT 32) 0 (cT 32 0) HSd :=
 B1 follows B4 D9u D9v A6 (A1 _) D0k C3y D6g
def D6h:Nat→LC:=atN 0 [(3,HSd)]
theorem D0l:F4 Tryz.prog T 32 D6h:=D1 0 (List.forall_mem_cons.2 ⟨C3z.1,fun _ h=>by cases h⟩) 1 (by kernel_rfl) ⟨trivial,T9 (s0:=HSd) (by kernel_rfl) C3z⟩
theorem D6i (l:V):F0 Tryz.prog T K26 D6h false FU 32 (List Rs) (L6 T [25] [l]) (fun _=>none) 0 (fun out=>P2 T true [.d 2,.d 3] out)=smD l (fun s e=>some [.d 2 (.i s),.d 3 (.i e)]):=by kernel_rfl
def C3A:List (Nat×D3):=(32,H5 T true [25] (gF smg (smr 2 3)))::C3w
theorem A7x:C7 Tryz.prog T C3A:=by
 refine D5 (sh:=true) (rk:=[.d 2,.d 3]) (d:=4) (fu:=FU) (Lo:=D6h) (ds:=[.slice B2b]) follows B4 A7w (by kernel_rfl) D0l 40 (by kernel_rfl) (fun xs hd hg=>?_)
 obtain ⟨a,rfl,ha⟩:=Z0 hd
 exact (D6i a).trans (B7b _ ha hg).2
def K27:KC:=E4 Tryz.prog T C3A false FU 4
theorem D9w:K27.nat:=A8 A7x 4
theorem D9x:W6 Tryz.prog T K27.dir:=B6 follows B4 A7x 4
def C3B:PRg→Vm.St
 | .m l s n i=>⟨[(2,.b false),(3,.i .i64 s),(6,.v 22 l),(7,.i .i64 n),(8,.i .i64 i)],.e,[],0,some []⟩
def D8n (R:Type) (kx:Exit→Vm.St→Option R):QRg→Option R
 | .o l s n i=>kx (.exit 0) { C3B (.m l s n i) with nx:=64 }
 | .r l s n i=>kx (.ret) { C3B (.m l s n i) with nx:=64 }
def C3C:Vm.St→Option PRg
 | ⟨[(2,.b false),(3,.i .i64 s),(6,.v 22 l),(7,.i .i64 n),(8,.i .i64 i)],.e,[],0,some []⟩=>some (.m l s n i)
 | _=>none
theorem C3D:J7 C3C C3B:=by
 intro _ _ h
 unfold C3C at h
 split at h<;>first | (cases h;rfl) | cases h
theorem D6j:E7 T K27 (fun _=>none) (nT 7) (cT 7 0) 0 [999999,2,3,6,7,8] 64 C3B BRg D8n:=by
 intro R of x K kx
 cases x<;>kernel_rfl
def HRg:LS:=D9 T K27 (fun _=>none) (nT 7) (cT 7 0) 0 [999999,2,3,6,7,8] 64 C3C BRg D8n
theorem C3E:B8 Tryz.prog T (nT 7) 0 (cT 7 0) HRg :=
 B1 follows B4 D9w D9x A6 (A1 _) C3B C3D D6j
def D6k:Nat→LC:=atN 0 [(3,HRg)]
theorem D0m:F4 Tryz.prog T 7 D6k:=D1 0 (List.forall_mem_cons.2 ⟨C3E.1,fun _ h=>by cases h⟩) 1 (by kernel_rfl) ⟨trivial,T9 (s0:=HRg) (by kernel_rfl) C3E⟩
theorem D6l (l:V):F0 Tryz.prog T K27 D6k false FU 7 (List Rs) (L6 T [22] [l]) (fun _=>none) 0 (fun out=>P2 T true [.d 4] out)=rgC l (fun q=>some [.d 4 (.b q)]):=by kernel_rfl
def C3F:List (Nat×D3):=(7,H5 T true [22] (gF rgg (rgr 4)))::C3A
theorem A7y:C7 Tryz.prog T C3F:=by
 refine D5 (sh:=true) (rk:=[.d 4]) (d:=4) (fu:=FU) (Lo:=D6k) (ds:=[.slice R7]) follows B4 A7x (by kernel_rfl) D0m 40 (by kernel_rfl) (fun xs hd hg=>?_)
 obtain ⟨a,rfl,ha⟩:=Z0 hd
 exact (D6l a).trans (C85 ha hg)
def K28:KC:=E4 Tryz.prog T C3F false FU 4
theorem D8o:K28.nat:=A8 A7y 4
theorem D8p:W6 Tryz.prog T K28.dir:=B6 follows B4 A7y 4
def D0n:PGa→Vm.St
 | .m t l n i=>⟨[(1,.p 0 27 []),(2,.b false),(18,.v 24 l),(19,.i .i64 n),(20,.i .i64 i)],(.n (some (.box 27 (.v 27 t) false)) .e .e),[],1,some []⟩
def D8q (R:Type) (kx:Exit→Vm.St→Option R):QGa→Option R
 | .o t l n i=>kx (.exit 0) { D0n (.m t l n i) with nx:=64 }
 | .r t l n i=>kx (.ret) ⟨[(1,.p 0 27 []),(2,.b true),(18,.v 24 l),(19,.i .i64 n),(20,.i .i64 i)],(.n (some (.box 27 (.v 27 t) false)) .e .e),[],64,some []⟩
def C3G:Vm.St→Option PGa
 | ⟨[(1,.p 0 27 []),(2,.b false),(18,.v 24 l),(19,.i .i64 n),(20,.i .i64 i)],(.n (some (.box 27 (.v 27 t) false)) .e .e),[],1,some []⟩=>some (.m t l n i)
 | _=>none
theorem C3H:J7 C3G D0n:=by
 intro _ _ h
 unfold C3G at h
 split at h<;>first | (cases h;rfl) | cases h
theorem D6m:E7 T K28 (fun _=>none) (nT 8) (cT 8 0) 0 [999999,1,2,18,19,20] 64 D0n BGa D8q:=by
 intro R of x K kx
 cases x<;>kernel_rfl
def HGa:LS:=D9 T K28 (fun _=>none) (nT 8) (cT 8 0) 0 [999999,1,2,18,19,20] 64 C3G BGa D8q
theorem C3I:B8 Tryz.prog T (nT 8) 0 (cT 8 0) HGa :=
 B1 follows B4 D8o D8p A6 (A1 _) D0n C3H D6m
def D0o:PGb→Vm.St
 | .m t l n i=>⟨[(1,.p 0 27 []),(2,.b false),(30,.v 25 l),(31,.i .i64 n),(32,.i .i64 i)],(.n (some (.box 27 (.v 27 t) false)) .e .e),[],1,some []⟩
def D8r (R:Type) (kx:Exit→Vm.St→Option R):QGb→Option R
 | .o t l n i=>kx (.exit 2) { D0o (.m t l n i) with nx:=128 }
 | .r t l n i=>kx (.ret) ⟨[(1,.p 0 27 []),(2,.b true),(30,.v 25 l),(31,.i .i64 n),(32,.i .i64 i)],(.n (some (.box 27 (.v 27 t) false)) .e .e),[],128,some []⟩
def C3J:Vm.St→Option PGb
 | ⟨[(1,.p 0 27 []),(2,.b false),(30,.v 25 l),(31,.i .i64 n),(32,.i .i64 i)],(.n (some (.box 27 (.v 27 t) false)) .e .e),[],1,some []⟩=>some (.m t l n i)
 | _=>none
theorem C3K:J7 C3J D0o:=by
 intro _ _ h
 unfold C3J at h
 split at h<;>first | (cases h;rfl) | cases h
theorem D6n:E7 T K28 (fun _=>none) (nT 8) (cT 8 1) 0 [999999,1,2,30,31,32] 128 D0o BGb D8r:=by
 intro R of x K kx
 cases x<;>kernel_rfl
def HGb:LS:=D9 T K28 (fun _=>none) (nT 8) (cT 8 1) 0 [999999,1,2,30,31,32] 128 C3J BGb D8r
theorem C3L:B8 Tryz.prog T (nT 8) 0 (cT 8 1) HGb :=
 B1 follows B4 D8o D8p A6 (A1 _) D0o C3K D6n
def D6o:Nat→LC:=atN 0 [(4,HGa),(10,HGb)]
theorem D0p:F4 Tryz.prog T 8 D6o:=D1 0 (List.forall_mem_cons.2 ⟨C3I.1,List.forall_mem_cons.2 ⟨C3L.1,fun _ h=>by cases h⟩⟩) 2 (by kernel_rfl) ⟨⟨trivial,T9 (s0:=HGa) (by kernel_rfl) C3I⟩,T9 (s0:=HGb) (by kernel_rfl) C3L⟩
theorem D6p (v u:Int) (x y:V):F0 Tryz.prog T K28 D6o false FU 8 (List Rs) (L6 T [27] [.l [.i v,x,y,.i u]]) (fun _=>none) 0 (fun out=>P2 T true [.d 4] out)=gtC v u x y (fun q=>some [.d 4 (.b q)]):=by kernel_rfl
def C3M:List (Nat×D3):=(8,H5 T true [27] (gF gtg (gtr 4)))::C3F
theorem A7z:C7 Tryz.prog T C3M:=by
 refine D5 (sh:=true) (rk:=[.d 4]) (d:=4) (fu:=FU) (Lo:=D6o) (ds:=[DTx]) follows B4 A7y (by kernel_rfl) D0p 40 (by kernel_rfl) (fun xs hd hg=>?_)
 obtain ⟨a,rfl,ha⟩:=Z0 hd
 obtain ⟨v,x,y,u,rfl,_⟩:=A9t ha
 exact (D6p v u x y).trans (C86 hg)
def K29:KC:=E4 Tryz.prog T C3M false FU 4
theorem D6q:K29.nat:=A8 A7z 4
theorem D6r:W6 Tryz.prog T K29.dir:=B6 follows B4 A7z 4
end Go.Proofs.YteoeonfajlnggaaGreat
namespace Go.Proofs.YteoeonfajlnggaaGreat
open Go.Vm
set_option maxRecDepth 100000
set_option linter.unusedVariables false
set_option linter.constructorNameAsVariable false
def D0q:PCi→Vm.St
 | .m t l n i a j=>⟨[(1,.p 0 27 []),(2,.i .i64 0),(5,.i .i64 a),(6,.i .i64 j),(35,.v 24 l),(36,.i .i64 n),(37,.i .i64 i)],(.n (some (.box 27 (.v 27 t) false)) .e .e),[],1,some []⟩
def D8s (R:Type) (kx:Exit→Vm.St→Option R):QCi→Option R
 | .o t l n i a j=>kx (.exit 2) { D0q (.m t l n i a j) with nx:=64 }
 | .r t l n i a j=>kx (.ret) ⟨[(1,.p 0 27 []),(2,.i .i64 101),(5,.i .i64 a),(6,.i .i64 j),(35,.v 24 l),(36,.i .i64 n),(37,.i .i64 i)],(.n (some (.box 27 (.v 27 t) false)) .e .e),[],64,some []⟩
def C3N:Vm.St→Option PCi
 | ⟨[(1,.p 0 27 []),(2,.i .i64 0),(5,.i .i64 a),(6,.i .i64 j),(35,.v 24 l),(36,.i .i64 n),(37,.i .i64 i)],(.n (some (.box 27 (.v 27 t) false)) .e .e),[],1,some []⟩=>some (.m t l n i a j)
 | _=>none
theorem C3O:J7 C3N D0q:=by
 intro _ _ h
 unfold C3N at h
 split at h<;>first | (cases h;rfl) | cases h
theorem D6s:E7 T K29 (fun _=>none) (nT 9) (cT 9 1) 0 [999999,1,2,5,6,35,36,37] 64 D0q BCi D8s:=by
 intro R of x K kx
 cases x<;>kernel_rfl
def HCi:LS:=D9 T K29 (fun _=>none) (nT 9) (cT 9 1) 0 [999999,1,2,5,6,35,36,37] 64 C3N BCi D8s
theorem C3P:B8 Tryz.prog T (nT 9) 0 (cT 9 1) HCi :=
 B1 follows B4 D6q D6r A6 (A1 _) D0q C3O D6s
def D0r:PCo→Vm.St
 | .m t l n i=>⟨[(1,.p 0 27 []),(2,.i .i64 0),(35,.v 24 l),(36,.i .i64 n),(37,.i .i64 i)],(.n (some (.box 27 (.v 27 t) false)) .e .e),[],1,some []⟩
def D8t (R:Type) (kx:Exit→Vm.St→Option R):QCo→Option R
 | .o t l n i=>kx (.exit 0) { D0r (.m t l n i) with nx:=128 }
 | .r t l n i=>kx (.ret) ⟨[(1,.p 0 27 []),(2,.i .i64 101),(35,.v 24 l),(36,.i .i64 n),(37,.i .i64 i)],(.n (some (.box 27 (.v 27 t) false)) .e .e),[],128,some []⟩
def C3Q:Vm.St→Option PCo
 | ⟨[(1,.p 0 27 []),(2,.i .i64 0),(35,.v 24 l),(36,.i .i64 n),(37,.i .i64 i)],(.n (some (.box 27 (.v 27 t) false)) .e .e),[],1,some []⟩=>some (.m t l n i)
 | _=>none
theorem C3R:J7 C3Q D0r:=by
 intro _ _ h
 unfold C3Q at h
 split at h<;>first | (cases h;rfl) | cases h
theorem D6t:E7 T K29 (loT [(10,HCi)]) (nT 9) (cT 9 0) 0 [999999,1,2,35,36,37] 128 D0r BCo D8t:=by
 intro R of x K kx
 cases x<;>kernel_rfl
def HCo:LS:=D9 T K29 (loT [(10,HCi)]) (nT 9) (cT 9 0) 0 [999999,1,2,35,36,37] 128 C3Q BCo D8t
theorem C3S:B8 Tryz.prog T (nT 9) 0 (cT 9 0) HCo :=
 B1 follows B4 D6q D6r (A0S (List.forall_mem_cons.2 ⟨C3P.1,fun _ h=>by cases h⟩)) (R8 1 (by kernel_rfl) ⟨trivial,T9 (s0:=HCi) (by kernel_rfl) ((show lp (lp (G7 Tryz.prog 9) 0) 0=lp (G7 Tryz.prog 9) 1 from by kernel_rfl) ▸ C3P)⟩) D0r C3R D6t
def D0s:PCt→Vm.St
 | .m t l n i=>⟨[(1,.p 0 27 []),(2,.i .i64 0),(60,.v 24 l),(61,.i .i64 n),(62,.i .i64 i)],(.n (some (.box 27 (.v 27 t) false)) .e .e),[],1,some []⟩
def D8u (R:Type) (kx:Exit→Vm.St→Option R):QCt→Option R
 | .o t l n i=>kx (.exit 4) { D0s (.m t l n i) with nx:=256 }
 | .r t l n i=>kx (.ret) ⟨[(1,.p 0 27 []),(2,.i .i64 101),(60,.v 24 l),(61,.i .i64 n),(62,.i .i64 i)],(.n (some (.box 27 (.v 27 t) false)) .e .e),[],256,some []⟩
def C3T:Vm.St→Option PCt
 | ⟨[(1,.p 0 27 []),(2,.i .i64 0),(60,.v 24 l),(61,.i .i64 n),(62,.i .i64 i)],(.n (some (.box 27 (.v 27 t) false)) .e .e),[],1,some []⟩=>some (.m t l n i)
 | _=>none
theorem C3U:J7 C3T D0s:=by
 intro _ _ h
 unfold C3T at h
 split at h<;>first | (cases h;rfl) | cases h
theorem D6u:E7 T K29 (fun _=>none) (nT 9) (cT 9 2) 0 [999999,1,2,60,61,62] 256 D0s BCt D8u:=by
 intro R of x K kx
 cases x<;>kernel_rfl
def HCt:LS:=D9 T K29 (fun _=>none) (nT 9) (cT 9 2) 0 [999999,1,2,60,61,62] 256 C3T BCt D8u
theorem C3V:B8 Tryz.prog T (nT 9) 0 (cT 9 2) HCt :=
 B1 follows B4 D6q D6r A6 (A1 _) D0s C3U D6u
def D6v:Nat→LC:=atN 0 [(7,HCo),(16,HCt)]
theorem D0t:F4 Tryz.prog T 9 D6v:=D1 0 (List.forall_mem_cons.2 ⟨C3S.1,List.forall_mem_cons.2 ⟨C3V.1,fun _ h=>by cases h⟩⟩) 3 (by kernel_rfl) ⟨⟨⟨trivial,T9 (s0:=HCo) (by kernel_rfl) C3S⟩,loN (by kernel_rfl)⟩,T9 (s0:=HCt) (by kernel_rfl) C3V⟩
theorem D6w (v u:Int) (x y:V):F0 Tryz.prog T K29 D6v false FU 9 (List Rs) (L6 T [27] [.l [.i v,x,y,.i u]]) (fun _=>none) 0 (fun out=>P2 T true [.d 3] out)=ckG v u x y (fun e=>some [.d 3 (.i e)]):=by kernel_rfl
def C3W:List (Nat×D3):=(9,H5 T true [27] (gF txg (chr 3)))::C3M
theorem A7A:C7 Tryz.prog T C3W:=by
 refine D5 (sh:=true) (rk:=[.d 3]) (d:=4) (fu:=FU) (Lo:=D6v) (ds:=[DTx]) follows B4 A7z (by kernel_rfl) D0t 40 (by kernel_rfl) (fun xs hd hg=>?_)
 obtain ⟨a,rfl,ha⟩:=Z0 hd
 obtain ⟨v,x,y,u,rfl,hv,hx,hy,hu⟩:=A9t ha
 exact (D6w v u x y).trans (C9a _ hx hy hv hu hg)
def K30:KC:=E4 Tryz.prog T C3W false FU 4
theorem A5h:K30.nat:=A8 A7A 4
theorem B5j:W6 Tryz.prog T K30.dir:=B6 follows B4 A7A 4
def D0u:PNw→Vm.St
 | .m l es n i=>⟨[(3,.p 0 81 []),(9,.v 22 l),(10,.i .i64 n),(11,.i .i64 i)],(.n (some (.box 81 (.g 81 [.m 1]) false)) (.n (some (.vm 38 43 es)) .e .e) .e),[],2,some []⟩
def D8v (R:Type) (kx:Exit→Vm.St→Option R):QNw→Option R
 | .o l es n i=>kx (.exit 0) { D0u (.m l es n i) with nx:=64 }
def C3X:Vm.St→Option PNw
 | ⟨[(3,.p 0 81 []),(9,.v 22 l),(10,.i .i64 n),(11,.i .i64 i)],(.n (some (.box 81 (.g 81 [.m 1]) false)) (.n (some (.vm 38 43 es)) .e .e) .e),[],2,some []⟩=>some (.m l es n i)
 | _=>none
theorem C3Y:J7 C3X D0u:=by
 intro _ _ h
 unfold C3X at h
 split at h<;>first | (cases h;rfl) | cases h
theorem D6x:E7 T K30 (fun _=>none) (nT 11) (cT 11 0) 0 [999999,3,9,10,11] 64 D0u BNw D8v:=by
 intro R of x K kx
 cases x<;>kernel_rfl
def HNw:LS:=D9 T K30 (fun _=>none) (nT 11) (cT 11 0) 0 [999999,3,9,10,11] 64 C3X BNw D8v
theorem C3Z:B8 Tryz.prog T (nT 11) 0 (cT 11 0) HNw :=
 B1 follows B4 A5h B5j A6 (A1 _) D0u C3Y D6x
def D8w:Nat→LC:=atN 0 [(3,HNw)]
theorem A6F:F4 Tryz.prog T 11 D8w:=D1 0 (List.forall_mem_cons.2 ⟨C3Z.1,fun _ h=>by cases h⟩) 1 (by kernel_rfl) ⟨trivial,T9 (s0:=HNw) (by kernel_rfl) C3Z⟩
def D0v:PFe→Vm.St
 | .m es t l h s n i=>⟨[(0,.p 0 81 []),(2,.i .i64 h),(4,.p 2 27 []),(6,.i .i64 0),(7,.i .i64 0),(8,.i .i64 s),(16,.v 24 l),(17,.i .i64 n),(18,.i .i64 i)],(.n (some (.box 81 (.g 81 [.m 1]) false)) (.n (some (.vm 38 43 es)) .e .e) (.n (some (.box 27 (.v 27 t) false)) .e .e)),[1,0],3,some []⟩
def D8x (R:Type) (kx:Exit→Vm.St→Option R):QFe→Option R
 | .o es t l h s n i=>kx (.exit 0) { D0v (.m es t l h s n i) with nx:=64 }
 | .c es t l h s n i=>kx (.ret) ⟨[(0,.p 0 81 []),(2,.i .i64 h),(4,.p 2 27 []),(6,.i .i64 0),(7,.i .i64 161),(8,.i .i64 s),(16,.v 24 l),(17,.i .i64 n),(18,.i .i64 i)],(.n (some (.box 81 (.g 81 [.m 1]) false)) (.n (some (.vm 38 43 es)) .e .e) (.n (some (.box 27 (.v 27 t) false)) .e .e)),[1,0],64,some []⟩
 | .y es t l h s n i=>kx (.ret) ⟨[(0,.p 0 81 []),(2,.i .i64 h),(4,.p 2 27 []),(6,.i .i64 0),(7,.i .i64 162),(8,.i .i64 s),(16,.v 24 l),(17,.i .i64 n),(18,.i .i64 i)],(.n (some (.box 81 (.g 81 [.m 1]) false)) (.n (some (.vm 38 43 es)) .e .e) (.n (some (.box 27 (.v 27 t) false)) .e .e)),[1,0],64,some []⟩
 | .z es t l h s n i=>kx (.ret) ⟨[(0,.p 0 81 []),(2,.i .i64 h),(4,.p 2 27 []),(6,.i .i64 0),(7,.i .i64 91),(8,.i .i64 s),(16,.v 24 l),(17,.i .i64 n),(18,.i .i64 i)],(.n (some (.box 81 (.g 81 [.m 1]) false)) (.n (some (.vm 38 43 es)) .e .e) (.n (some (.box 27 (.v 27 t) false)) .e .e)),[1,0],64,some []⟩
def C30:Vm.St→Option PFe
 | ⟨[(0,.p 0 81 []),(2,.i .i64 h),(4,.p 2 27 []),(6,.i .i64 0),(7,.i .i64 0),(8,.i .i64 s),(16,.v 24 l),(17,.i .i64 n),(18,.i .i64 i)],(.n (some (.box 81 (.g 81 [.m 1]) false)) (.n (some (.vm 38 43 es)) .e .e) (.n (some (.box 27 (.v 27 t) false)) .e .e)),[1,0],3,some []⟩=>some (.m es t l h s n i)
 | _=>none
theorem C31:J7 C30 D0v:=by
 intro _ _ h
 unfold C30 at h
 split at h<;>first | (cases h;rfl) | cases h
theorem D6y:E7 T K30 (fun _=>none) (nT 15) (cT 15 0) 2 [999999,0,2,4,6,7,8,16,17,18] 64 D0v BFe D8x:=by
 intro R of x K kx
 cases x<;>kernel_rfl
def HFe:LS:=D9 T K30 (fun _=>none) (nT 15) (cT 15 0) 2 [999999,0,2,4,6,7,8,16,17,18] 64 C30 BFe D8x
theorem C32:B8 Tryz.prog T (nT 15) 2 (cT 15 0) HFe :=
 B1 follows B4 A5h B5j A6 (A1 _) D0v C31 D6y
def D8y:Nat→LC:=atN 2 [(3,HFe)]
theorem A6G:F4 Tryz.prog T 15 D8y:=D1 2 (List.forall_mem_cons.2 ⟨C32.1,fun _ h=>by cases h⟩) 1 (by kernel_rfl) ⟨trivial,T9 (s0:=HFe) (by kernel_rfl) C32⟩
def D0w:PAi→Vm.St
 | .m es t l h b xs nl n i=>⟨[(0,.p 0 81 []),(2,.i .i64 h),(4,.p 2 27 []),(7,.o 3 1),(8,.b b),(19,.v 24 l),(20,.i .i64 n),(21,.i .i64 i)],(.n (some (.box 81 (.g 81 [.m 1]) false)) (.n (some (.vm 38 43 es)) (.n (some (.row 45 1 xs nl false)) .e .e) .e) (.n (some (.box 27 (.v 27 t) false)) .e .e)),[1,0],4,some []⟩
def D8z (R:Type) (kx:Exit→Vm.St→Option R):QAi→Option R
 | .o es t l h b xs nl n i=>kx (.exit 0) { D0w (.m es t l h b xs nl n i) with nx:=64 }
def C33:Vm.St→Option PAi
 | ⟨[(0,.p 0 81 []),(2,.i .i64 h),(4,.p 2 27 []),(7,.o 3 1),(8,.b b),(19,.v 24 l),(20,.i .i64 n),(21,.i .i64 i)],(.n (some (.box 81 (.g 81 [.m 1]) false)) (.n (some (.vm 38 43 es)) (.n (some (.row 45 1 xs nl false)) .e .e) .e) (.n (some (.box 27 (.v 27 t) false)) .e .e)),[1,0],4,some []⟩=>some (.m es t l h b xs nl n i)
 | _=>none
theorem C34:J7 C33 D0w:=by
 intro _ _ h
 unfold C33 at h
 split at h<;>first | (cases h;rfl) | cases h
theorem D6z:E7 T K30 (fun _=>none) (nT 16) (cT 16 0) 2 [999999,0,2,4,7,8,19,20,21] 64 D0w BAi D8z:=by
 intro R of x K kx
 cases x<;>kernel_rfl
def HAi:LS:=D9 T K30 (fun _=>none) (nT 16) (cT 16 0) 2 [999999,0,2,4,7,8,19,20,21] 64 C33 BAi D8z
theorem C35:B8 Tryz.prog T (nT 16) 2 (cT 16 0) HAi :=
 B1 follows B4 A5h B5j A6 (A1 _) D0w C34 D6z
def D0x:PAo→Vm.St
 | .m es h b xs nl d l n i=>⟨[(0,.p 0 81 []),(2,.i .i64 h),(7,.o 2 1),(8,.b b),(13,.p 3 35 []),(58,.v 25 l),(59,.i .i64 n),(60,.i .i64 i)],(.n (some (.box 81 (.g 81 [.m 1]) false)) (.n (some (.vm 38 43 es)) (.n (some (.box 35 (.v 35 d) false)) .e .e) .e) (.n (some (.row 45 1 xs nl false)) .e .e)),[1,0],4,some []⟩
def D8A (R:Type) (kx:Exit→Vm.St→Option R):QAo→Option R
 | .o es h b xs nl d l n i=>kx (.exit 2) { D0x (.m es h b xs nl d l n i) with nx:=128 }
def C36:Vm.St→Option PAo
 | ⟨[(0,.p 0 81 []),(2,.i .i64 h),(7,.o 2 1),(8,.b b),(13,.p 3 35 []),(58,.v 25 l),(59,.i .i64 n),(60,.i .i64 i)],(.n (some (.box 81 (.g 81 [.m 1]) false)) (.n (some (.vm 38 43 es)) (.n (some (.box 35 (.v 35 d) false)) .e .e) .e) (.n (some (.row 45 1 xs nl false)) .e .e)),[1,0],4,some []⟩=>some (.m es h b xs nl d l n i)
 | _=>none
theorem C37:J7 C36 D0x:=by
 intro _ _ h
 unfold C36 at h
 split at h<;>first | (cases h;rfl) | cases h
theorem D6A:E7 T K30 (fun _=>none) (nT 16) (cT 16 1) 2 [999999,0,2,7,8,13,58,59,60] 128 D0x BAo D8A:=by
 intro R of x K kx
 cases x<;>kernel_rfl
def HAo:LS:=D9 T K30 (fun _=>none) (nT 16) (cT 16 1) 2 [999999,0,2,7,8,13,58,59,60] 128 C36 BAo D8A
theorem C38:B8 Tryz.prog T (nT 16) 2 (cT 16 1) HAo :=
 B1 follows B4 A5h B5j A6 (A1 _) D0x C37 D6A
def D8B:Nat→LC:=atN 2 [(4,HAi),(13,HAo)]
theorem A6H:F4 Tryz.prog T 16 D8B:=D1 2 (List.forall_mem_cons.2 ⟨C35.1,List.forall_mem_cons.2 ⟨C38.1,fun _ h=>by cases h⟩⟩) 2 (by kernel_rfl) ⟨⟨trivial,T9 (s0:=HAi) (by kernel_rfl) C35⟩,T9 (s0:=HAo) (by kernel_rfl) C38⟩
def D3V:List (Nat×D3):=(11,trS (P1 Tryz.prog T K30 D8w false FU 11))::C3W
theorem C39:C7 Tryz.prog T D3V:=A7A.cons (J8 (M5 A5h A6F.nat)) (N5 (M5 A5h A6F.nat) (H0 follows B4 A5h B5j A6F.nat A6F.ok).at_)
def D3W:List (Nat×D3):=(15,trS (P1 Tryz.prog T K30 D8y false FU 15))::D3V
theorem C4a:C7 Tryz.prog T D3W:=C39.cons (J8 (M5 A5h A6G.nat)) (N5 (M5 A5h A6G.nat) (H0 follows B4 A5h B5j A6G.nat A6G.ok).at_)
def D3X:List (Nat×D3):=(16,trS (P1 Tryz.prog T K30 D8B false FU 16))::D3W
theorem C4b:C7 Tryz.prog T D3X:=C4a.cons (J8 (M5 A5h A6H.nat)) (N5 (M5 A5h A6H.nat) (H0 follows B4 A5h B5j A6H.nat A6H.ok).at_)
def C4c:List (Nat×D3):=(13,A55 (D5b 43))::D3X
theorem A7B:C7 Tryz.prog T C4c:=C4b.cons (A3l _) (by rw [A3m];exact C87 D5Q (by kernel_rfl) B28)
def K34:KC:=E4 Tryz.prog T C4c false FU 4
theorem E0e:K34.nat:=A8 A7B 4
theorem E0f:W6 Tryz.prog T K34.dir:=B6 follows B4 A7B 4
end Go.Proofs.YteoeonfajlnggaaGreat
namespace Go.Proofs.YteoeonfajlnggaaGreat
open Go.Vm
set_option maxRecDepth 100000
set_option linter.unusedVariables false
set_option linter.constructorNameAsVariable false
def C4d:List (Nat×D3):=(79,A55 (D1p T 39))::C4c
theorem A7C:C7 Tryz.prog T C4d:=A7B.cons (A3l _) (by rw [A3m];exact C5O (u8:=5) (by kernel_rfl) (by kernel_rfl) Tryz.func79 (by kernel_rfl) (by kernel_rfl) (by kernel_rfl) (by kernel_rfl))
def K35:KC:=E4 Tryz.prog T C4d false FU 4
theorem E0g:K35.nat:=A8 A7C 4
theorem E0h:W6 Tryz.prog T K35.dir:=B6 follows B4 A7C 4
theorem D0y (x y:V):F0 Tryz.prog T K35 (fun _ _=>none) false FU 45 (List Rs) (L6 T [38,38] [x,y]) (fun _=>none) 0 (fun out=>P2 T true [.d 3] out)=some [.d 3 (.i (J6 (U3 x) (U3 y)))]:=by kernel_rfl
def C4e:List (Nat×D3):=(45,H5 T true [38,38] (gF (fun _=>true) (fun xs=>match xs with | [x,y]=>[.d 3 (.i (cmR x y))] | _=>[])))::C4d
theorem A7D:C7 Tryz.prog T C4e:=by
 refine D5 (sh:=true) (rk:=[.d 3]) (d:=4) (fu:=FU) (Lo:=(fun _ _=>none)) (ds:=[.struct [.arr 32 (.int .u8),.int .u32],.struct [.arr 32 (.int .u8),.int .u32]]) follows B4 A7C (by kernel_rfl) C8 40 (by kernel_rfl) (fun xs hd hg=>?_)
 obtain ⟨a,b,rfl,ha,hb⟩:=A3Q hd
 refine (D0y a b).trans ?_
 show _=some [Rs.d 3 (V.i (cmR a b))]
 rw [A0C]
def K36:KC:=E4 Tryz.prog T C4e false FU 4
theorem E0i:K36.nat:=A8 A7D 4
theorem E0j:W6 Tryz.prog T K36.dir:=B6 follows B4 A7D 4
theorem D6B (n:Int):F0 Tryz.prog T K36 (fun _ _=>none) false FU 98 (List Rs) (L6 T [98] [.i n]) (fun _=>none) 0 (fun out=>P2 T true [.d 3] out)=Wd.ln64 n (fun b=>some [.d 3 (.i b)]):=by kernel_rfl
def C4f:List (Nat×D3):=(98,H5 T true [98] (gF (fun _=>true) (fun xs=>match xs with | [x]=>[.d 3 (.i (Wd.blen x.int.toNat:Int))] | _=>[])))::C4e
theorem A7E:C7 Tryz.prog T C4f:=by
 refine D5 (sh:=true) (rk:=[.d 3]) (d:=4) (fu:=FU) (Lo:=(fun _ _=>none)) (ds:=[.int .u64]) follows B4 A7D (by kernel_rfl) C8 40 (by kernel_rfl) (fun xs hd hg=>?_)
 obtain ⟨a,rfl,ha⟩:=Z0 hd
 obtain ⟨n,rfl,h1,h2⟩:=ha
 simp only [lo,hi] at h1 h2
 exact (D6B n).trans (Wd.ln64_law (by omega))
def K37:KC:=E4 Tryz.prog T C4f false FU 4
theorem A04:K37.nat:=A8 A7E 4
theorem A05:W6 Tryz.prog T K37.dir:=B6 follows B4 A7E 4
end Go.Proofs.YteoeonfajlnggaaGreat
namespace Go.Proofs.YteoeonfajlnggaaGreat
open Go.Vm
set_option maxRecDepth 100000
set_option linter.unusedVariables false
set_option linter.constructorNameAsVariable false
def B1i:B7c→Vm.St
 | .m xs a b i j=>⟨[(0,.o 0 1),(1,.i .i64 a),(2,.i .i64 b),(3,.f 45 []),(8,.i .i64 i),(9,.i .i64 j)],(.n (some (.row 38 1 xs false false)) .e .e),[0],1,some []⟩
def C4g (R:Type) (kx:Exit→Vm.St→Option R):D3v→Option R
 | .o xs a b i j=>kx (.exit 2) { B1i (.m xs a b i j) with nx:=64 }
def B1j:Vm.St→Option B7c
 | ⟨[(0,.o 0 1),(1,.i .i64 a),(2,.i .i64 b),(3,.f 45 []),(8,.i .i64 i),(9,.i .i64 j)],(.n (some (.row 38 1 xs false false)) .e .e),[0],1,some []⟩=>some (.m xs a b i j)
 | _=>none
theorem B5k:J7 B1j B1i:=by
 intro _ _ h
 unfold B1j at h
 split at h<;>first | (cases h;rfl) | cases h
theorem C4h:E7 T K37 (fun _=>none) (nT 89) (cT 89 1) 1 [999999,0,1,2,3,8,9] 64 B1i A5O C4g:=by
 intro R of x K kx
 cases x<;>kernel_rfl
def A9S:LS:=D9 T K37 (fun _=>none) (nT 89) (cT 89 1) 1 [999999,0,1,2,3,8,9] 64 B1j A5O C4g
theorem A4n:B8 Tryz.prog T (nT 89) 1 (cT 89 1) A9S :=
 B1 follows B4 A04 A05 A6 (A1 _) B1i B5k C4h
def A7F:B7d→Vm.St
 | .m xs r h f=>⟨[(0,.o 0 1),(2,.i .i64 h),(3,.i .i64 f),(4,.f 45 []),(10,.i .i64 r)],(.n (some (.row 38 1 xs false false)) .e .e),[0],1,some []⟩
def C4i (R:Type) (kx:Exit→Vm.St→Option R):B2T→Option R
 | .o xs r h f=>kx (.exit 0) { A7F (.m xs r h f) with nx:=64 }
 | .r xs r h f=>kx (.ret) { A7F (.m xs r h f) with nx:=64 }
def B1k:Vm.St→Option B7d
 | ⟨[(0,.o 0 1),(2,.i .i64 h),(3,.i .i64 f),(4,.f 45 []),(10,.i .i64 r)],(.n (some (.row 38 1 xs false false)) .e .e),[0],1,some []⟩=>some (.m xs r h f)
 | _=>none
theorem B5l:J7 B1k A7F:=by
 intro _ _ h
 unfold B1k at h
 split at h<;>first | (cases h;rfl) | cases h
theorem C4j:E7 T K37 (fun _=>none) (nT 106) (cT 106 0) 1 [999999,0,2,3,4,10] 64 A7F A2S C4i:=by
 intro R of x K kx
 cases x<;>kernel_rfl
def C4k:LS:=D9 T K37 (fun _=>none) (nT 106) (cT 106 0) 1 [999999,0,2,3,4,10] 64 B1k A2S C4i
theorem B29:B8 Tryz.prog T (nT 106) 1 (cT 106 0) C4k :=
 B1 follows B4 A04 A05 A6 (A1 _) A7F B5l C4j
def B1l:B7e→Vm.St
 | .m xs i j=>⟨[(0,.o 0 1),(3,.f 45 []),(8,.i .i64 i),(9,.i .i64 j)],(.n (some (.row 38 1 xs false false)) .e .e),[0],1,some []⟩
def C4l (R:Type) (kx:Exit→Vm.St→Option R):D3w→Option R
 | .o xs i j=>kx (.exit 0) { B1l (.m xs i j) with nx:=64 }
def B1m:Vm.St→Option B7e
 | ⟨[(0,.o 0 1),(3,.f 45 []),(8,.i .i64 i),(9,.i .i64 j)],(.n (some (.row 38 1 xs false false)) .e .e),[0],1,some []⟩=>some (.m xs i j)
 | _=>none
theorem B5m:J7 B1m B1l:=by
 intro _ _ h
 unfold B1m at h
 split at h<;>first | (cases h;rfl) | cases h
theorem C4m:E7 T K37 (fun _=>none) (nT 93) (cT 93 0) 1 [999999,0,3,8,9] 64 B1l A5P C4l:=by
 intro R of x K kx
 cases x<;>kernel_rfl
def C4n:LS:=D9 T K37 (fun _=>none) (nT 93) (cT 93 0) 1 [999999,0,3,8,9] 64 B1m A5P C4l
theorem B3a:B8 Tryz.prog T (nT 93) 1 (cT 93 0) C4n :=
 B1 follows B4 A04 A05 A6 (A1 _) B1l B5m C4m
def B1n:B7f→Vm.St
 | .m xs a b i s=>⟨[(0,.o 0 1),(1,.i .i64 a),(2,.i .i64 b),(3,.f 45 []),(8,.b false),(9,.i .i64 i),(10,.i .i64 s)],(.n (some (.row 38 1 xs false false)) .e .e),[0],1,some []⟩
def C4o (R:Type) (kx:Exit→Vm.St→Option R):D3x→Option R
 | .o xs a b i s=>kx (.exit 2) { B1n (.m xs a b i s) with nx:=64 }
def B1o:Vm.St→Option B7f
 | ⟨[(0,.o 0 1),(1,.i .i64 a),(2,.i .i64 b),(3,.f 45 []),(8,.b false),(9,.i .i64 i),(10,.i .i64 s)],(.n (some (.row 38 1 xs false false)) .e .e),[0],1,some []⟩=>some (.m xs a b i s)
 | _=>none
theorem B5n:J7 B1o B1n:=by
 intro _ _ h
 unfold B1o at h
 split at h<;>first | (cases h;rfl) | cases h
theorem C4p:E7 T K37 (fun _=>none) (nT 94) (cT 94 1) 1 [999999,0,1,2,3,8,9,10] 64 B1n A9F C4o:=by
 intro R of x K kx
 cases x<;>kernel_rfl
def A9T:LS:=D9 T K37 (fun _=>none) (nT 94) (cT 94 1) 1 [999999,0,1,2,3,8,9,10] 64 B1o A9F C4o
theorem A4o:B8 Tryz.prog T (nT 94) 1 (cT 94 1) A9T :=
 B1 follows B4 A04 A05 A6 (A1 _) B1n B5n C4p
def B1p:B7g→Vm.St
 | .m xs a b i s j=>⟨[(0,.o 0 1),(1,.i .i64 a),(2,.i .i64 b),(3,.f 45 []),(8,.b false),(9,.i .i64 i),(10,.i .i64 s),(11,.i .i64 j)],(.n (some (.row 38 1 xs false false)) .e .e),[0],1,some []⟩
def C4q (R:Type) (kx:Exit→Vm.St→Option R):D3y→Option R
 | .o xs a b i s j=>kx (.exit 4) { B1p (.m xs a b i s j) with nx:=128 }
def B1q:Vm.St→Option B7g
 | ⟨[(0,.o 0 1),(1,.i .i64 a),(2,.i .i64 b),(3,.f 45 []),(8,.b false),(9,.i .i64 i),(10,.i .i64 s),(11,.i .i64 j)],(.n (some (.row 38 1 xs false false)) .e .e),[0],1,some []⟩=>some (.m xs a b i s j)
 | _=>none
theorem B5o:J7 B1q B1p:=by
 intro _ _ h
 unfold B1q at h
 split at h<;>first | (cases h;rfl) | cases h
theorem C4r:E7 T K37 (fun _=>none) (nT 94) (cT 94 2) 1 [999999,0,1,2,3,8,9,10,11] 128 B1p A5Q C4q:=by
 intro R of x K kx
 cases x<;>kernel_rfl
def A9U:LS:=D9 T K37 (fun _=>none) (nT 94) (cT 94 2) 1 [999999,0,1,2,3,8,9,10,11] 128 B1q A5Q C4q
theorem A4p:B8 Tryz.prog T (nT 94) 1 (cT 94 2) A9U :=
 B1 follows B4 A04 A05 A6 (A1 _) B1p B5o C4r
def B1r:B7h→Vm.St
 | .m xs a b i s j=>⟨[(0,.o 0 1),(1,.i .i64 a),(2,.i .i64 b),(3,.f 45 []),(8,.b false),(9,.i .i64 i),(10,.i .i64 s),(12,.i .i64 j)],(.n (some (.row 38 1 xs false false)) .e .e),[0],1,some []⟩
def C4s (R:Type) (kx:Exit→Vm.St→Option R):D3z→Option R
 | .o xs a b i s j=>kx (.exit 6) { B1r (.m xs a b i s j) with nx:=256 }
def B1s:Vm.St→Option B7h
 | ⟨[(0,.o 0 1),(1,.i .i64 a),(2,.i .i64 b),(3,.f 45 []),(8,.b false),(9,.i .i64 i),(10,.i .i64 s),(12,.i .i64 j)],(.n (some (.row 38 1 xs false false)) .e .e),[0],1,some []⟩=>some (.m xs a b i s j)
 | _=>none
theorem B5p:J7 B1s B1r:=by
 intro _ _ h
 unfold B1s at h
 split at h<;>first | (cases h;rfl) | cases h
theorem C4t:E7 T K37 (fun _=>none) (nT 94) (cT 94 3) 1 [999999,0,1,2,3,8,9,10,12] 256 B1r A5R C4s:=by
 intro R of x K kx
 cases x<;>kernel_rfl
def A9V:LS:=D9 T K37 (fun _=>none) (nT 94) (cT 94 3) 1 [999999,0,1,2,3,8,9,10,12] 256 B1s A5R C4s
theorem A4q:B8 Tryz.prog T (nT 94) 1 (cT 94 3) A9V :=
 B1 follows B4 A04 A05 A6 (A1 _) B1r B5p C4t
def B1t:B7i→Vm.St
 | .m xs a i j=>⟨[(0,.o 0 1),(1,.i .i64 a),(4,.f 45 []),(11,.i .i64 i),(12,.i .i64 j)],(.n (some (.row 38 1 xs false false)) .e .e),[0],1,some []⟩
def C4u (R:Type) (kx:Exit→Vm.St→Option R):D3A→Option R
 | .o xs a i j=>kx (.exit 2) { B1t (.m xs a i j) with nx:=64 }
def B1u:Vm.St→Option B7i
 | ⟨[(0,.o 0 1),(1,.i .i64 a),(4,.f 45 []),(11,.i .i64 i),(12,.i .i64 j)],(.n (some (.row 38 1 xs false false)) .e .e),[0],1,some []⟩=>some (.m xs a i j)
 | _=>none
theorem B5q:J7 B1u B1t:=by
 intro _ _ h
 unfold B1u at h
 split at h<;>first | (cases h;rfl) | cases h
theorem C4v:E7 T K37 (fun _=>none) (nT 95) (cT 95 1) 1 [999999,0,1,4,11,12] 64 B1t A9G C4u:=by
 intro R of x K kx
 cases x<;>kernel_rfl
def A9W:LS:=D9 T K37 (fun _=>none) (nT 95) (cT 95 1) 1 [999999,0,1,4,11,12] 64 B1u A9G C4u
theorem A4r:B8 Tryz.prog T (nT 95) 1 (cT 95 1) A9W :=
 B1 follows B4 A04 A05 A6 (A1 _) B1t B5q C4v
def B1v:B7j→Vm.St
 | .m xs a i j=>⟨[(0,.o 0 1),(1,.i .i64 a),(4,.f 45 []),(11,.i .i64 i),(12,.i .i64 j)],(.n (some (.row 38 1 xs false false)) .e .e),[0],1,some []⟩
def C4w (R:Type) (kx:Exit→Vm.St→Option R):D3B→Option R
 | .o xs a i j=>kx (.exit 4) { B1v (.m xs a i j) with nx:=128 }
def B1w:Vm.St→Option B7j
 | ⟨[(0,.o 0 1),(1,.i .i64 a),(4,.f 45 []),(11,.i .i64 i),(12,.i .i64 j)],(.n (some (.row 38 1 xs false false)) .e .e),[0],1,some []⟩=>some (.m xs a i j)
 | _=>none
theorem B5r:J7 B1w B1v:=by
 intro _ _ h
 unfold B1w at h
 split at h<;>first | (cases h;rfl) | cases h
theorem C4x:E7 T K37 (fun _=>none) (nT 95) (cT 95 2) 1 [999999,0,1,4,11,12] 128 B1v A9H C4w:=by
 intro R of x K kx
 cases x<;>kernel_rfl
def A9X:LS:=D9 T K37 (fun _=>none) (nT 95) (cT 95 2) 1 [999999,0,1,4,11,12] 128 B1w A9H C4w
theorem A4s:B8 Tryz.prog T (nT 95) 1 (cT 95 2) A9X :=
 B1 follows B4 A04 A05 A6 (A1 _) B1v B5r C4x
def B1x:B7k→Vm.St
 | .m xs a i j=>⟨[(0,.o 0 1),(1,.i .i64 a),(4,.f 45 []),(12,.i .i64 i),(13,.i .i64 j)],(.n (some (.row 38 1 xs false false)) .e .e),[0],1,some []⟩
def C4y (R:Type) (kx:Exit→Vm.St→Option R):D3C→Option R
 | .o xs a i j=>kx (.exit 0) { B1x (.m xs a i j) with nx:=64 }
def B1y:Vm.St→Option B7k
 | ⟨[(0,.o 0 1),(1,.i .i64 a),(4,.f 45 []),(12,.i .i64 i),(13,.i .i64 j)],(.n (some (.row 38 1 xs false false)) .e .e),[0],1,some []⟩=>some (.m xs a i j)
 | _=>none
theorem B5s:J7 B1y B1x:=by
 intro _ _ h
 unfold B1y at h
 split at h<;>first | (cases h;rfl) | cases h
theorem C4z:E7 T K37 (fun _=>none) (nT 96) (cT 96 0) 1 [999999,0,1,4,12,13] 64 B1x A9I C4y:=by
 intro R of x K kx
 cases x<;>kernel_rfl
def C4A:LS:=D9 T K37 (fun _=>none) (nT 96) (cT 96 0) 1 [999999,0,1,4,12,13] 64 B1y A9I C4y
theorem B3b:B8 Tryz.prog T (nT 96) 1 (cT 96 0) C4A :=
 B1 follows B4 A04 A05 A6 (A1 _) B1x B5s C4z
def B1z:B7m→Vm.St
 | .m xs a i j=>⟨[(0,.o 0 1),(1,.i .i64 a),(4,.f 45 []),(12,.i .i64 i),(13,.i .i64 j)],(.n (some (.row 38 1 xs false false)) .e .e),[0],1,some []⟩
def C4B (R:Type) (kx:Exit→Vm.St→Option R):D3E→Option R
 | .o xs a i j=>kx (.exit 2) { B1z (.m xs a i j) with nx:=128 }
def B1A:Vm.St→Option B7m
 | ⟨[(0,.o 0 1),(1,.i .i64 a),(4,.f 45 []),(12,.i .i64 i),(13,.i .i64 j)],(.n (some (.row 38 1 xs false false)) .e .e),[0],1,some []⟩=>some (.m xs a i j)
 | _=>none
theorem B5t:J7 B1A B1z:=by
 intro _ _ h
 unfold B1A at h
 split at h<;>first | (cases h;rfl) | cases h
theorem C4C:E7 T K37 (fun _=>none) (nT 96) (cT 96 1) 1 [999999,0,1,4,12,13] 128 B1z A9K C4B:=by
 intro R of x K kx
 cases x<;>kernel_rfl
def C4D:LS:=D9 T K37 (fun _=>none) (nT 96) (cT 96 1) 1 [999999,0,1,4,12,13] 128 B1A A9K C4B
theorem B3c:B8 Tryz.prog T (nT 96) 1 (cT 96 1) C4D :=
 B1 follows B4 A04 A05 A6 (A1 _) B1z B5t C4C
def B1B:B7l→Vm.St
 | .m xs a i j=>⟨[(0,.o 0 1),(1,.i .i64 a),(4,.f 45 []),(12,.i .i64 i),(13,.i .i64 j)],(.n (some (.row 38 1 xs false false)) .e .e),[0],1,some []⟩
def C4E (R:Type) (kx:Exit→Vm.St→Option R):D3D→Option R
 | .o xs a i j=>kx (.exit 6) { B1B (.m xs a i j) with nx:=256 }
def B1C:Vm.St→Option B7l
 | ⟨[(0,.o 0 1),(1,.i .i64 a),(4,.f 45 []),(12,.i .i64 i),(13,.i .i64 j)],(.n (some (.row 38 1 xs false false)) .e .e),[0],1,some []⟩=>some (.m xs a i j)
 | _=>none
theorem B5u:J7 B1C B1B:=by
 intro _ _ h
 unfold B1C at h
 split at h<;>first | (cases h;rfl) | cases h
theorem C4F:E7 T K37 (fun _=>none) (nT 96) (cT 96 3) 1 [999999,0,1,4,12,13] 256 B1B A9J C4E:=by
 intro R of x K kx
 cases x<;>kernel_rfl
def A9Y:LS:=D9 T K37 (fun _=>none) (nT 96) (cT 96 3) 1 [999999,0,1,4,12,13] 256 B1C A9J C4E
theorem A4t:B8 Tryz.prog T (nT 96) 1 (cT 96 3) A9Y :=
 B1 follows B4 A04 A05 A6 (A1 _) B1B B5u C4F
def B1D:B7n→Vm.St
 | .m xs a i j=>⟨[(0,.o 0 1),(1,.i .i64 a),(4,.f 45 []),(12,.i .i64 i),(13,.i .i64 j)],(.n (some (.row 38 1 xs false false)) .e .e),[0],1,some []⟩
def C4G (R:Type) (kx:Exit→Vm.St→Option R):D3F→Option R
 | .o xs a i j=>kx (.exit 8) { B1D (.m xs a i j) with nx:=512 }
def B1E:Vm.St→Option B7n
 | ⟨[(0,.o 0 1),(1,.i .i64 a),(4,.f 45 []),(12,.i .i64 i),(13,.i .i64 j)],(.n (some (.row 38 1 xs false false)) .e .e),[0],1,some []⟩=>some (.m xs a i j)
 | _=>none
theorem B5v:J7 B1E B1D:=by
 intro _ _ h
 unfold B1E at h
 split at h<;>first | (cases h;rfl) | cases h
theorem C4H:E7 T K37 (fun _=>none) (nT 96) (cT 96 4) 1 [999999,0,1,4,12,13] 512 B1D A9L C4G:=by
 intro R of x K kx
 cases x<;>kernel_rfl
def A9Z:LS:=D9 T K37 (fun _=>none) (nT 96) (cT 96 4) 1 [999999,0,1,4,12,13] 512 B1E A9L C4G
theorem A4u:B8 Tryz.prog T (nT 96) 1 (cT 96 4) A9Z :=
 B1 follows B4 A04 A05 A6 (A1 _) B1D B5v C4H
end Go.Proofs.YteoeonfajlnggaaGreat
namespace Go.Proofs.YteoeonfajlnggaaGreat
open Go.Vm
set_option maxRecDepth 100000
set_option linter.unusedVariables false
set_option linter.constructorNameAsVariable false
def B1F:B7o→Vm.St
 | .m xs a b i=>⟨[(0,.o 0 1),(1,.i .i64 a),(2,.i .i64 b),(3,.f 45 []),(8,.i .i64 i)],(.n (some (.row 38 1 xs false false)) .e .e),[0],1,some []⟩
def C4I (R:Type) (kx:Exit→Vm.St→Option R):D3G→Option R
 | .o xs a b i=>kx (.exit 0) { B1F (.m xs a b i) with nx:=128 }
def B1G:Vm.St→Option B7o
 | ⟨[(0,.o 0 1),(1,.i .i64 a),(2,.i .i64 b),(3,.f 45 []),(8,.i .i64 i)],(.n (some (.row 38 1 xs false false)) .e .e),[0],1,some []⟩=>some (.m xs a b i)
 | _=>none
theorem B5w:J7 B1G B1F:=by
 intro _ _ h
 unfold B1G at h
 split at h<;>first | (cases h;rfl) | cases h
theorem C4J:E7 T K37 (loT [(4,A9S)]) (nT 89) (cT 89 0) 1 [999999,0,1,2,3,8] 128 B1F A51 C4I:=by
 intro R of x K kx
 cases x<;>kernel_rfl
def C4K:LS:=D9 T K37 (loT [(4,A9S)]) (nT 89) (cT 89 0) 1 [999999,0,1,2,3,8] 128 B1G A51 C4I
theorem B3d:B8 Tryz.prog T (nT 89) 1 (cT 89 0) C4K :=
 B1 follows B4 A04 A05 (A0S (List.forall_mem_cons.2 ⟨A4n.1,fun _ h=>by cases h⟩)) (R8 1 (by kernel_rfl) ⟨trivial,T9 (s0:=A9S) (by kernel_rfl) ((show lp (lp (G7 Tryz.prog 89) 0) 0=lp (G7 Tryz.prog 89) 1 from by kernel_rfl) ▸ A4n)⟩) B1F B5w C4J
def A7G:B2U→Vm.St
 | .m xs a b i s=>⟨[(0,.o 0 1),(1,.i .i64 a),(2,.i .i64 b),(3,.f 45 []),(8,.b false),(9,.i .i64 i),(10,.i .i64 s)],(.n (some (.row 38 1 xs false false)) .e .e),[0],1,some []⟩
def C4L (R:Type) (kx:Exit→Vm.St→Option R):B7r→Option R
 | .o xs a b i s=>kx (.exit 0) { A7G (.m xs a b i s) with nx:=512 }
 | .r xs a b i s=>kx (.ret) { A7G (.m xs a b i s) with nx:=512 }
 | .t xs a b i s=>kx (.ret) ⟨[(0,.o 0 1),(1,.i .i64 a),(2,.i .i64 b),(3,.f 45 []),(8,.b true),(9,.i .i64 i),(10,.i .i64 s)],(.n (some (.row 38 1 xs false false)) .e .e),[0],512,some []⟩
def B1H:Vm.St→Option B2U
 | ⟨[(0,.o 0 1),(1,.i .i64 a),(2,.i .i64 b),(3,.f 45 []),(8,.b false),(9,.i .i64 i),(10,.i .i64 s)],(.n (some (.row 38 1 xs false false)) .e .e),[0],1,some []⟩=>some (.m xs a b i s)
 | _=>none
theorem B5x:J7 B1H A7G:=by
 intro _ _ h
 unfold B1H at h
 split at h<;>first | (cases h;rfl) | cases h
theorem C4M:E7 T K37 (loT [(5,A9T),(14,A9U),(20,A9V)]) (nT 94) (cT 94 0) 1 [999999,0,1,2,3,8,9,10] 512 A7G A1S C4L:=by
 intro R of x K kx
 cases x<;>kernel_rfl
def C4N:LS:=D9 T K37 (loT [(5,A9T),(14,A9U),(20,A9V)]) (nT 94) (cT 94 0) 1 [999999,0,1,2,3,8,9,10] 512 B1H A1S C4L
theorem B3e:B8 Tryz.prog T (nT 94) 1 (cT 94 0) C4N :=
 B1 follows B4 A04 A05 (A0S (List.forall_mem_cons.2 ⟨A4o.1,List.forall_mem_cons.2 ⟨A4p.1,List.forall_mem_cons.2 ⟨A4q.1,fun _ h=>by cases h⟩⟩⟩)) (R8 3 (by kernel_rfl) ⟨⟨⟨trivial,T9 (s0:=A9T) (by kernel_rfl) ((show lp (lp (G7 Tryz.prog 94) 0) 0=lp (G7 Tryz.prog 94) 1 from by kernel_rfl) ▸ A4o)⟩,T9 (s0:=A9U) (by kernel_rfl) ((show lp (lp (G7 Tryz.prog 94) 0) 1=lp (G7 Tryz.prog 94) 2 from by kernel_rfl) ▸ A4p)⟩,T9 (s0:=A9V) (by kernel_rfl) ((show lp (lp (G7 Tryz.prog 94) 0) 2=lp (G7 Tryz.prog 94) 3 from by kernel_rfl) ▸ A4q)⟩) A7G B5x C4M
def B1I:B7p→Vm.St
 | .m xs a i j=>⟨[(0,.o 0 1),(1,.i .i64 a),(4,.f 45 []),(11,.i .i64 i),(12,.i .i64 j)],(.n (some (.row 38 1 xs false false)) .e .e),[0],1,some []⟩
def C4O (R:Type) (kx:Exit→Vm.St→Option R):D3H→Option R
 | .o xs a i j=>kx (.exit 0) { B1I (.m xs a i j) with nx:=256 }
def B1J:Vm.St→Option B7p
 | ⟨[(0,.o 0 1),(1,.i .i64 a),(4,.f 45 []),(11,.i .i64 i),(12,.i .i64 j)],(.n (some (.row 38 1 xs false false)) .e .e),[0],1,some []⟩=>some (.m xs a i j)
 | _=>none
theorem B5y:J7 B1J B1I:=by
 intro _ _ h
 unfold B1J at h
 split at h<;>first | (cases h;rfl) | cases h
theorem C4P:E7 T K37 (loT [(3,A9W),(5,A9X)]) (nT 95) (cT 95 0) 1 [999999,0,1,4,11,12] 256 B1I A52 C4O:=by
 intro R of x K kx
 cases x<;>kernel_rfl
def C4Q:LS:=D9 T K37 (loT [(3,A9W),(5,A9X)]) (nT 95) (cT 95 0) 1 [999999,0,1,4,11,12] 256 B1J A52 C4O
theorem B3f:B8 Tryz.prog T (nT 95) 1 (cT 95 0) C4Q :=
 B1 follows B4 A04 A05 (A0S (List.forall_mem_cons.2 ⟨A4r.1,List.forall_mem_cons.2 ⟨A4s.1,fun _ h=>by cases h⟩⟩)) (R8 2 (by kernel_rfl) ⟨⟨trivial,T9 (s0:=A9W) (by kernel_rfl) ((show lp (lp (G7 Tryz.prog 95) 0) 0=lp (G7 Tryz.prog 95) 1 from by kernel_rfl) ▸ A4r)⟩,T9 (s0:=A9X) (by kernel_rfl) ((show lp (lp (G7 Tryz.prog 95) 0) 1=lp (G7 Tryz.prog 95) 2 from by kernel_rfl) ▸ A4s)⟩) B1I B5y C4P
def B1K:B7q→Vm.St
 | .m xs a i j=>⟨[(0,.o 0 1),(1,.i .i64 a),(4,.f 45 []),(12,.i .i64 i),(13,.i .i64 j)],(.n (some (.row 38 1 xs false false)) .e .e),[0],1,some []⟩
def C4R (R:Type) (kx:Exit→Vm.St→Option R):D3I→Option R
 | .o xs a i j=>kx (.exit 4) { B1K (.m xs a i j) with nx:=1024 }
def B1L:Vm.St→Option B7q
 | ⟨[(0,.o 0 1),(1,.i .i64 a),(4,.f 45 []),(12,.i .i64 i),(13,.i .i64 j)],(.n (some (.row 38 1 xs false false)) .e .e),[0],1,some []⟩=>some (.m xs a i j)
 | _=>none
theorem B5z:J7 B1L B1K:=by
 intro _ _ h
 unfold B1L at h
 split at h<;>first | (cases h;rfl) | cases h
theorem C4S:E7 T K37 (loT [(13,A9Y),(15,A9Z)]) (nT 96) (cT 96 2) 1 [999999,0,1,4,12,13] 1024 B1K A63 C4R:=by
 intro R of x K kx
 cases x<;>kernel_rfl
def C4T:LS:=D9 T K37 (loT [(13,A9Y),(15,A9Z)]) (nT 96) (cT 96 2) 1 [999999,0,1,4,12,13] 1024 B1L A63 C4R
theorem B3g:B8 Tryz.prog T (nT 96) 1 (cT 96 2) C4T :=
 B1 follows B4 A04 A05 (A0S (List.forall_mem_cons.2 ⟨A4t.1,List.forall_mem_cons.2 ⟨A4u.1,fun _ h=>by cases h⟩⟩)) (R8 2 (by kernel_rfl) ⟨⟨trivial,T9 (s0:=A9Y) (by kernel_rfl) ((show lp (lp (G7 Tryz.prog 96) 2) 0=lp (G7 Tryz.prog 96) 3 from by kernel_rfl) ▸ A4t)⟩,T9 (s0:=A9Z) (by kernel_rfl) ((show lp (lp (G7 Tryz.prog 96) 2) 1=lp (G7 Tryz.prog 96) 4 from by kernel_rfl) ▸ A4u)⟩) B1K B5z C4S
def C4U:Nat→LC:=B0U 1 [(1001,C4K),(4,A9S)]
theorem A90:F4 Tryz.prog T 89 C4U:=A0f 1 (List.forall_mem_cons.2 ⟨B3d.1,List.forall_mem_cons.2 ⟨A4n.1,fun _ h=>by cases h⟩⟩) 2 (by kernel_rfl) ⟨⟨trivial,T9 (s0:=C4K) (by kernel_rfl) B3d⟩,T9 (s0:=A9S) (by kernel_rfl) A4n⟩
def C4V:Nat→LC:=B0U 1 [(1,C4k)]
theorem A91:F4 Tryz.prog T 106 C4V:=A0f 1 (List.forall_mem_cons.2 ⟨B29.1,fun _ h=>by cases h⟩) 1 (by kernel_rfl) ⟨trivial,T9 (s0:=C4k) (by kernel_rfl) B29⟩
def C4W:Nat→LC:=B0U 1 [(2,C4n)]
theorem A92:F4 Tryz.prog T 93 C4W:=A0f 1 (List.forall_mem_cons.2 ⟨B3a.1,fun _ h=>by cases h⟩) 1 (by kernel_rfl) ⟨trivial,T9 (s0:=C4n) (by kernel_rfl) B3a⟩
def C4X:Nat→LC:=B0U 1 [(3003,C4N),(5,A9T),(14,A9U),(20,A9V)]
theorem A93:F4 Tryz.prog T 94 C4X:=A0f 1 (List.forall_mem_cons.2 ⟨B3e.1,List.forall_mem_cons.2 ⟨A4o.1,List.forall_mem_cons.2 ⟨A4p.1,List.forall_mem_cons.2 ⟨A4q.1,fun _ h=>by cases h⟩⟩⟩⟩) 4 (by kernel_rfl) ⟨⟨⟨⟨trivial,T9 (s0:=C4N) (by kernel_rfl) B3e⟩,T9 (s0:=A9T) (by kernel_rfl) A4o⟩,T9 (s0:=A9U) (by kernel_rfl) A4p⟩,T9 (s0:=A9V) (by kernel_rfl) A4q⟩
def C4Y:Nat→LC:=B0U 1 [(2003,C4Q),(3,A9W),(5,A9X)]
theorem A94:F4 Tryz.prog T 95 C4Y:=A0f 1 (List.forall_mem_cons.2 ⟨B3f.1,List.forall_mem_cons.2 ⟨A4r.1,List.forall_mem_cons.2 ⟨A4s.1,fun _ h=>by cases h⟩⟩⟩) 3 (by kernel_rfl) ⟨⟨⟨trivial,T9 (s0:=C4Q) (by kernel_rfl) B3f⟩,T9 (s0:=A9W) (by kernel_rfl) A4r⟩,T9 (s0:=A9X) (by kernel_rfl) A4s⟩
def C4Z:Nat→LC:=B0U 1 [(3,C4A),(5,C4D),(2013,C4T),(13,A9Y),(15,A9Z)]
theorem A95:F4 Tryz.prog T 96 C4Z:=A0f 1 (List.forall_mem_cons.2 ⟨B3b.1,List.forall_mem_cons.2 ⟨B3c.1,List.forall_mem_cons.2 ⟨B3g.1,List.forall_mem_cons.2 ⟨A4t.1,List.forall_mem_cons.2 ⟨A4u.1,fun _ h=>by cases h⟩⟩⟩⟩⟩) 5 (by kernel_rfl) ⟨⟨⟨⟨⟨trivial,T9 (s0:=C4A) (by kernel_rfl) B3b⟩,T9 (s0:=C4D) (by kernel_rfl) B3c⟩,T9 (s0:=C4T) (by kernel_rfl) B3g⟩,T9 (s0:=A9Y) (by kernel_rfl) A4t⟩,T9 (s0:=A9Z) (by kernel_rfl) A4u⟩
end Go.Proofs.YteoeonfajlnggaaGreat
namespace Go.Proofs.YteoeonfajlnggaaGreat
open Go.Vm
set_option maxRecDepth 100000
set_option linter.unusedVariables false
set_option linter.constructorNameAsVariable false
theorem D0z (xs:List V) (a b:Int):(P1 Tryz.prog T K37 C4U false FU 89).dir [.o 0 1,.i .i64 a,.i .i64 b,.f 45 []] (ofL [.row 38 1 xs false false]) 1=D30 J2 xs a b (fun ys=>some (⟨.t [],[(0,.row 38 1 ys false false)],[0],128⟩:J2)):=by kernel_rfl
theorem D0A:R4 Tryz.prog T 89 (M8 (A4g 38 45) A03 (L7 38 1024 (fun _=>.t []) A5S)).dir :=
 A3j (H0 follows B4 A04 A05 A90.nat A90.ok) (fun xs a b hg=>⟨128,[0],by first | decide | (cases A0F _<;>decide),(D0z xs a b).trans (B9X (R:=J2) hg (fun ys=>some (⟨.t [],[(0,.row 38 1 ys false false)],[0],128⟩:J2))),by simp⟩)
theorem D0B (xs:List V) (a b c:Int):(P1 Tryz.prog T K37 C4V false FU 106).dir [.o 0 1,.i .i64 a,.i .i64 b,.i .i64 c,.f 45 []] (ofL [.row 38 1 xs false false]) 1=D31 J2 xs a b c (fun ys=>some (⟨.t [],[(0,.row 38 1 ys false false)],[0],64⟩:J2)):=by kernel_rfl
theorem D0C:R4 Tryz.prog T 106 (M8 (A2l 38 45) B0V (L7 38 1024 (fun _=>.t []) A3L)).dir :=
 A1r (H0 follows B4 A04 A05 A91.nat A91.ok) (fun xs a b c hg=>⟨64,[0],by first | decide | (cases A0F _<;>decide),(D0B xs a b c).trans (B9Y (R:=J2) hg (fun ys=>some (⟨.t [],[(0,.row 38 1 ys false false)],[0],64⟩:J2))),by simp⟩)
theorem D0D (xs:List V) (a b:Int):(P1 Tryz.prog T K37 C4W false FU 93).dir [.o 0 1,.i .i64 a,.i .i64 b,.f 45 []] (ofL [.row 38 1 xs false false]) 1=D32 J2 xs a b (fun ys=>some (⟨.t [],[(0,.row 38 1 ys false false)],[0],64⟩:J2)):=by kernel_rfl
theorem D0E:R4 Tryz.prog T 93 (M8 (A4g 38 45) A2k (L7 38 1024 (fun _=>.t []) A3M)).dir :=
 A3j (H0 follows B4 A04 A05 A92.nat A92.ok) (fun xs a b hg=>⟨64,[0],by first | decide | (cases A0F _<;>decide),(D0D xs a b).trans (B9Z (R:=J2) hg (fun ys=>some (⟨.t [],[(0,.row 38 1 ys false false)],[0],64⟩:J2))),by simp⟩)
theorem D0F (xs:List V) (a b:Int):(P1 Tryz.prog T K37 C4X false FU 94).dir [.o 0 1,.i .i64 a,.i .i64 b,.f 45 []] (ofL [.row 38 1 xs false false]) 1=D33 J2 xs a b (fun b ys=>some (⟨.b b,[(0,.row 38 1 ys false false)],[0],512⟩:J2)):=by kernel_rfl
theorem D0G:R4 Tryz.prog T 94 (M8 (A4g 38 45) A2k (L7 38 1024 (fun s=>.b (A5V s)) A4f)).dir :=
 A3j (H0 follows B4 A04 A05 A93.nat A93.ok) (fun xs a b hg=>⟨512,[0],by first | decide | (cases A0F _<;>decide),(D0F xs a b).trans (B90 (R:=J2) hg (fun b ys=>some (⟨.b b,[(0,.row 38 1 ys false false)],[0],512⟩:J2))),by simp⟩)
theorem D0H (xs:List V) (a b c:Int):(P1 Tryz.prog T K37 C4Y false FU 95).dir [.o 0 1,.i .i64 a,.i .i64 b,.i .i64 c,.f 45 []] (ofL [.row 38 1 xs false false]) 1=D34 J2 xs a b c (fun i ys=>some (⟨.i .i64 i,[(0,.row 38 1 ys false false)],[0],256⟩:J2)):=by kernel_rfl
theorem D0I:R4 Tryz.prog T 95 (M8 (A2l 38 45) A48 (L7 38 1024 (fun s=>.i .i64 (A5X s)) A5W)).dir :=
 A1r (H0 follows B4 A04 A05 A94.nat A94.ok) (fun xs a b c hg=>⟨256,[0],by first | decide | (cases A0F _<;>decide),(D0H xs a b c).trans (B91 (R:=J2) hg (fun i ys=>some (⟨.i .i64 i,[(0,.row 38 1 ys false false)],[0],256⟩:J2))),by simp⟩)
theorem D0J (xs:List V) (a b c:Int):(P1 Tryz.prog T K37 C4Z false FU 96).dir [.o 0 1,.i .i64 a,.i .i64 b,.i .i64 c,.f 45 []] (ofL [.row 38 1 xs false false]) 1=C5a J2 xs a b c (fun j b ys=>some (⟨.t [.i .i64 j,.b b],[(0,.row 38 1 ys false false)],[0],bif b then 128 else 1024⟩:J2)):=by kernel_rfl
theorem D0K:R4 Tryz.prog T 96 (M8 (A2l 38 45) A48 (L7 38 1024 (fun s=>.t [.i .i64 (A5Z s),.b (A0F s)]) A5Y)).dir :=
 A1r (H0 follows B4 A04 A05 A95.nat A95.ok) (fun xs a b c hg=>⟨bif A0F ⟨xs,a,b,c⟩ then 128 else 1024,[0],by first | decide | (cases A0F _<;>decide),(D0J xs a b c).trans (C5b (R:=J2) hg (fun j b ys=>some (⟨.t [.i .i64 j,.b b],[(0,.row 38 1 ys false false)],[0],bif b then 128 else 1024⟩:J2))),by simp⟩)
def C40:List (Nat×D3):=(89,trS (M8 (A4g 38 45) A03 (L7 38 1024 (fun _=>.t []) A5S)))::(106,trS (M8 (A2l 38 45) B0V (L7 38 1024 (fun _=>.t []) A3L)))::(93,trS (M8 (A4g 38 45) A2k (L7 38 1024 (fun _=>.t []) A3M)))::(94,trS (M8 (A4g 38 45) A2k (L7 38 1024 (fun s=>.b (A5V s)) A4f)))::(95,trS (M8 (A2l 38 45) A48 (L7 38 1024 (fun s=>.i .i64 (A5X s)) A5W)))::(96,trS (M8 (A2l 38 45) A48 (L7 38 1024 (fun s=>.t [.i .i64 (A5Z s),.b (A0F s)]) A5Y)))::C4f
theorem A7H:C7 Tryz.prog T C40:=((((((A7E).cons (J8 D6) (N5 D6 D0K)).cons (J8 D6) (N5 D6 D0I)).cons (J8 D6) (N5 D6 D0G)).cons (J8 D6) (N5 D6 D0E)).cons (J8 D6) (N5 D6 D0C)).cons (J8 D6) (N5 D6 D0A)
def K38:KC:=E4 Tryz.prog T C40 false FU 4
theorem B9R:K38.nat:=A8 A7H 4
theorem B9S:W6 Tryz.prog T K38.dir:=B6 follows B4 A7H 4
end Go.Proofs.YteoeonfajlnggaaGreat
end
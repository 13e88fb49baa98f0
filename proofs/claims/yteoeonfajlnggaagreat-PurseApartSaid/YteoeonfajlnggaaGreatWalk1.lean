/- What functions compute, and the law run. -/
import Derived.Test.YteoeonfajlnggaaGreatTy
import Derived.Test.YteoeonfajlnggaaGreatVm9
import Derived.Test.YteoeonfajlnggaaGreatVm10
import Derived.Test.YteoeonfajlnggaaGreatVm11
import Derived.Test.YteoeonfajlnggaaGreatVm12
set_option linter.constructorNameAsVariable false
set_option linter.unusedVariables false
set_option linter.unusedSimpArgs false
noncomputable section
namespace Go.Proofs.YteoeonfajlnggaaGreat
open Go.Vm
set_option maxRecDepth 100000
set_option linter.unusedVariables false
abbrev nT (f:Nat):Nat:=A6b Tryz.prog f
abbrev cT (f i:Nat):Code:=lp (H2 Tryz.prog f) i
def D1j:List (Nat×D7):=[]
theorem B0Q:D5 Tryz.prog T D1j:=B9E
def K1:KC:=F3 Tryz.prog T D1j false FU 4
theorem hK1:K1.nat:=B2 B0Q 4
theorem hS1:X9 Tryz.prog T K1.dir:=B9 follows B5 B0Q 4
def B6K:C9a→Vm.St
 | .m x z i w=>⟨[(0,.v 39 x),(2,.p 0 168 []),(3,.p 1 168 []),(8,.i .i64 i)],(.n (some (.box 168 (.v 168 z) false)) (.n (some (.box 168 (.v 168 w) false)) .e .e) .e),[],2,some []⟩
def D0j (R:Type) (kx:Exit→Vm.St→Option R):D3d→Option R
 | .o x z i w=>kx (.exit 0) { B6K (.m x z i w) with nx:=16 }
def B4s:Vm.St→Option C9a
 | ⟨[(0,.v 39 x),(2,.p 0 168 []),(3,.p 1 168 []),(8,.i .i64 i)],(.n (some (.box 168 (.v 168 z) false)) (.n (some (.box 168 (.v 168 w) false)) .e .e) .e),[],2,some []⟩=>some (.m x z i w)
 | _=>none
theorem B8g:T0 B4s B6K:=by
 intro _ _ h
 unfold B4s at h
 split at h<;>first | (cases h;rfl) | cases h
theorem C6G:J0 T K1 (fun _=>none) (nT 117) (cT 117 0) 0 [0,2,3,8] 16 B6K C5h D0j:=by
 intro R of x K kx
 cases x<;>kernel_rfl
def D1k:LS:=G0 T K1 (fun _=>none) (nT 117) (cT 117 0) 0 [0,2,3,8] 16 B4s C5h D0j
theorem B6L:D1 Tryz.prog T (nT 117) 0 (cT 117 0) D1k :=
 B7 follows B5 hK1 hS1 A7 (A4 _) B6K B8g C6G
def B6M:C9b→Vm.St
 | .m z i w=>⟨[(2,.p 0 168 []),(3,.p 1 168 []),(5,.i .i64 i)],(.n (some (.box 168 (.v 168 z) false)) (.n (some (.box 168 (.v 168 w) false)) .e .e) .e),[],2,some []⟩
def D0k (R:Type) (kx:Exit→Vm.St→Option R):D3e→Option R
 | .o z i w=>kx (.exit 2) { B6M (.m z i w) with nx:=16 }
def B4t:Vm.St→Option C9b
 | ⟨[(2,.p 0 168 []),(3,.p 1 168 []),(5,.i .i64 i)],(.n (some (.box 168 (.v 168 z) false)) (.n (some (.box 168 (.v 168 w) false)) .e .e) .e),[],2,some []⟩=>some (.m z i w)
 | _=>none
theorem B8h:T0 B4t B6M:=by
 intro _ _ h
 unfold B4t at h
 split at h<;>first | (cases h;rfl) | cases h
theorem C6H:J0 T K1 (fun _=>none) (nT 117) (cT 117 1) 0 [2,3,5] 16 B6M B9G D0k:=by
 intro R of x K kx
 cases x<;>kernel_rfl
def D1l:LS:=G0 T K1 (fun _=>none) (nT 117) (cT 117 1) 0 [2,3,5] 16 B4t B9G D0k
theorem B6N:D1 Tryz.prog T (nT 117) 0 (cT 117 1) D1l :=
 B7 follows B5 hK1 hS1 A7 (A4 _) B6M B8h C6H
def D1m:Nat→LC:=atN 0 [(3,D1k),(8,D1l)]
theorem C6I:H1 Tryz.prog T 117 D1m:=G1 0 (List.forall_mem_cons.2 ⟨B6L.1,List.forall_mem_cons.2 ⟨B6N.1,fun _ h=>by cases h⟩⟩) 2 (by kernel_rfl) ⟨⟨trivial,Z8 (s0:=D1k) (by kernel_rfl) B6L⟩,Z8 (s0:=D1l) (by kernel_rfl) B6N⟩
def Gsp:FC:=fun R xs k=>match xs with
 | [x]=>C8 (C5h R) (A3 FU) (.m x z64 0 z64) (fun | .o _ z _ w=>C8 (B9G R) (A3 FU) (.m z 16 w) (fun | .o _ _ w=>k [.d 168 w]))
 | _=>none
theorem D1n (R:Type) (x:V) (k:List Rs→Option R):G7 Tryz.prog T K1 D1m false FU 117 R (P9 T [39] [x]) (fun _=>none) 0 (fun out=>ob (S9 T false [.d 168] out) k)=Gsp R [x] k:=by kernel_rfl
def D1o:List (Nat×D7):=(117,J9 T false [39] (Fsp 168))::D1j
theorem B0R:D5 Tryz.prog T D1o:=by
 refine A4O (sh:=false) (rk:=[.d 168]) (d:=4) (fu:=FU) (Lo:=D1m) (G:=Gsp) follows B5 B0Q (C9h 168) (by kernel_rfl) C6I (fun R xs k htv=>?_) (fun xs rs htv hrs=>?_)
 ·match xs,htv.len with
  | [x],_=>exact D1n R x k
 ·match xs,htv,htv.len with
  | [x],htv,_ =>
   obtain ⟨e,cs,hx⟩:=htv.head
   obtain ⟨bs,h1,h2⟩:=A8s (T:=T) (el:=5) (kd:=.u8) (by kernel_rfl) (by kernel_rfl) rfl hx
   simp only [Fsp] at hrs
   cases hl:Nat.ble 64 x.els.length with
   | false=>rw [hl] at hrs;cases hrs
   | true =>
    rw [hl] at hrs
    have hl:=D50 hl
    rw [h1,D5Y] at hl
    exact (B5V h1 (B7K h2) hl HID (fun w=>some [Rs.d 168 w])).trans hrs
def K2:KC:=F3 Tryz.prog T D1o false FU 4
theorem hK2:K2.nat:=B2 B0R 4
theorem hS2:X9 Tryz.prog T K2.dir:=B9 follows B5 B0R 4
def B6O:C9c→Vm.St
 | .m s z w k x i=>⟨[(2,.p 0 153 []),(4,.p 1 153 []),(5,.p 3 168 []),(6,.p 4 168 []),(7,.p 5 153 []),(18,.i .i64 i)],(.n (some (.box 153 (.v 153 s) false)) (.n (some (.box 153 (.v 153 z) false)) (.n (some (.box 168 (.v 168 w) false)) .e .e) (.n (some (.box 153 (.v 153 x) false)) .e .e)) (.n none (.n (some (.box 168 (.v 168 k) false)) .e .e) .e)),[],6,some []⟩
def D0l (R:Type) (kx:Exit→Vm.St→Option R):D3f→Option R
 | .o s z w k x i=>kx (.exit 0) { B6O (.m s z w k x i) with nx:=16 }
def B4u:Vm.St→Option C9c
 | ⟨[(2,.p 0 153 []),(4,.p 1 153 []),(5,.p 3 168 []),(6,.p 4 168 []),(7,.p 5 153 []),(18,.i .i64 i)],(.n (some (.box 153 (.v 153 s) false)) (.n (some (.box 153 (.v 153 z) false)) (.n (some (.box 168 (.v 168 w) false)) .e .e) (.n (some (.box 153 (.v 153 x) false)) .e .e)) (.n none (.n (some (.box 168 (.v 168 k) false)) .e .e) .e)),[],6,some []⟩=>some (.m s z w k x i)
 | _=>none
theorem B8i:T0 B4u B6O:=by
 intro _ _ h
 unfold B4u at h
 split at h<;>first | (cases h;rfl) | cases h
theorem C6J:J0 T K2 (fun _=>none) (nT 105) (cT 105 0) 0 [2,4,5,6,7,18] 16 B6O C5i D0l:=by
 intro R of x K kx
 cases x<;>kernel_rfl
def D1p:LS:=G0 T K2 (fun _=>none) (nT 105) (cT 105 0) 0 [2,4,5,6,7,18] 16 B4u C5i D0l
theorem B6P:D1 Tryz.prog T (nT 105) 0 (cT 105 0) D1p :=
 B7 follows B5 hK2 hS2 A7 (A4 _) B6O B8i C6J
def B6Q:C9d→Vm.St
 | .m s z x i=>⟨[(2,.p 0 153 []),(4,.p 1 153 []),(7,.p 5 153 []),(98,.i .i64 i)],(.n (some (.box 153 (.v 153 s) false)) (.n (some (.box 153 (.v 153 z) false)) .e (.n (some (.box 153 (.v 153 x) false)) .e .e)) .e),[],6,some []⟩
def D0m (R:Type) (kx:Exit→Vm.St→Option R):D3g→Option R
 | .o s z x i=>kx (.exit 2) { B6Q (.m s z x i) with nx:=16 }
def B4v:Vm.St→Option C9d
 | ⟨[(2,.p 0 153 []),(4,.p 1 153 []),(7,.p 5 153 []),(98,.i .i64 i)],(.n (some (.box 153 (.v 153 s) false)) (.n (some (.box 153 (.v 153 z) false)) .e (.n (some (.box 153 (.v 153 x) false)) .e .e)) .e),[],6,some []⟩=>some (.m s z x i)
 | _=>none
theorem B8j:T0 B4v B6Q:=by
 intro _ _ h
 unfold B4v at h
 split at h<;>first | (cases h;rfl) | cases h
theorem C6K:J0 T K2 (fun _=>none) (nT 105) (cT 105 1) 0 [2,4,7,98] 16 B6Q B5T D0m:=by
 intro R of x K kx
 cases x<;>kernel_rfl
def D1q:LS:=G0 T K2 (fun _=>none) (nT 105) (cT 105 1) 0 [2,4,7,98] 16 B4v B5T D0m
theorem B6R:D1 Tryz.prog T (nT 105) 0 (cT 105 1) D1q :=
 B7 follows B5 hK2 hS2 A7 (A4 _) B6Q B8j C6K
def D1r:Nat→LC:=atN 0 [(3,D1p),(11,D1q)]
theorem C6L:H1 Tryz.prog T 105 D1r:=G1 0 (List.forall_mem_cons.2 ⟨B6P.1,List.forall_mem_cons.2 ⟨B6R.1,fun _ h=>by cases h⟩⟩) 2 (by kernel_rfl) ⟨⟨trivial,Z8 (s0:=D1p) (by kernel_rfl) B6P⟩,Z8 (s0:=D1q) (by kernel_rfl) B6R⟩
def Gmx:FC:=fun R xs k=>match xs with
 | [s,b]=>bif Nat.ble 64 b.els.length then C8 (C5i R) (A3 FU) (.m s z8 (spW b) A3b s 0) (fun | .o s z _ _ x _=>C8 (B5T R) (A3 FU) (.m s z x 0) (fun | .o s _ _ _=>k [.d 153 s])) else none
 | _=>none
theorem D1s (R:Type) (s b:V) (k:List Rs→Option R):G7 Tryz.prog T K2 D1r false FU 105 R (P9 T [153,39] [s,b]) (fun _=>none) 0 (fun out=>ob (S9 T false [.d 153] out) k)=Gmx R [s,b] k:=by kernel_rfl
def D1t:List (Nat×D7):=(105,J9 T false [153,39] (Fmx 153))::D1o
theorem A6i:D5 Tryz.prog T D1t:=by
 refine A4O (sh:=false) (rk:=[.d 153]) (d:=4) (fu:=FU) (Lo:=D1r) (G:=Gmx) follows B5 B0R (C9i 153) (by kernel_rfl) C6L (fun R xs k htv=>?_) (fun xs rs htv hrs=>?_)
 ·match xs,htv.len with
  | [s,b],_=>exact D1s R s b k
 ·match xs,htv,htv.len with
  | [s,b],htv,_ =>
   obtain ⟨e,cs,hs⟩:=htv.head
   obtain ⟨e2,cs2,hx⟩:=htv.tail.head
   obtain ⟨bs,h1,h2⟩:=A8s (T:=T) (el:=5) (kd:=.u8) (by kernel_rfl) (by kernel_rfl) rfl hx
   obtain ⟨ns,rfl,n1,n2⟩:=D3i (T:=T) (n:=8) (el:=23) (kd:=.u32) (by kernel_rfl) (by kernel_rfl) rfl hs
   obtain ⟨s8,hs8,hok⟩:=D3l n1 n2
   rw [hs8] at hrs ⊢
   simp only [Fmx] at hrs
   cases hl:Nat.ble 64 b.els.length with
   | false=>rw [hl] at hrs;cases hrs
   | true =>
    rw [hl] at hrs
    simp only [Gmx,hl,cond_true]
    have hl:=D50 hl
    rw [h1,D5Y] at hl
    exact (C9j hok h1 (B7K h2) hl HID (fun w=>some [Rs.d 153 w])).trans hrs
def K3:KC:=F3 Tryz.prog T D1t false FU 4
theorem hK3:K3.nat:=B2 A6i 4
theorem hS3:X9 Tryz.prog T K3.dir:=B9 follows B5 A6i 4
end Go.Proofs.YteoeonfajlnggaaGreat
namespace Go.Proofs.YteoeonfajlnggaaGreat
open Go.Vm
set_option maxRecDepth 100000
set_option linter.unusedVariables false
def B6S:C7Z→Vm.St
 | .m b xs=>⟨[(0,.v 39 b),(3,.o 1 1)],(.n none (.n (some (.row 5 1 xs false false)) .e .e) .e),[],2,some []⟩
def D0n (R:Type) (kx:Exit→Vm.St→Option R):D2k→Option R
 | .o b xs=>kx (.exit 0) { B6S (.m b xs) with nx:=8 }
def B4w:Vm.St→Option C7Z
 | ⟨[(0,.v 39 b),(3,.o 1 1)],(.n none (.n (some (.row 5 1 xs false false)) .e .e) .e),[],2,some []⟩=>some (.m b xs)
 | _=>none
theorem B8k:T0 B4w B6S:=by
 intro _ _ h
 unfold B4w at h
 split at h<;>first | (cases h;rfl) | cases h
theorem C6M:J0 T K3 (fun _=>none) (nT 68) (cT 68 0) 0 [0,3] 8 B6S C70 D0n:=by
 intro R of x K kx
 cases x<;>kernel_rfl
def D1u:LS:=G0 T K3 (fun _=>none) (nT 68) (cT 68 0) 0 [0,3] 8 B4w C70 D0n
theorem B6T:D1 Tryz.prog T (nT 68) 0 (cT 68 0) D1u :=
 B7 follows B5 hK3 hS3 A7 (A4 _) B6S B8k C6M
def D1v:Nat→LC:=atN 0 [(2,D1u)]
theorem C6N:H1 Tryz.prog T 68 D1v:=G1 0 (List.forall_mem_cons.2 ⟨B6T.1,fun _ h=>by cases h⟩) 2 (by kernel_rfl) ⟨⟨trivial,Z8 (s0:=D1u) (by kernel_rfl) B6T⟩,loN (by kernel_rfl)⟩
theorem D1w (R:Type) (b:V) (k:List Rs→Option R):G7 Tryz.prog T K3 D1v false FU 68 R (P9 T [39] [b]) (fun _=>none) 0 (fun out=>ob (S9 T false [.r 5] out) k)=Gpd 5 R [b] k:=by kernel_rfl
def D1x:List (Nat×D7):=(68,J9 T false [39] (Fpd 5))::D1t
theorem B0S:D5 Tryz.prog T D1x:=by
 refine A4O (sh:=false) (rk:=[.r 5]) (d:=4) (fu:=FU) (Lo:=D1v) (G:=Gpd 5) follows B5 A6i (C76 5) (by kernel_rfl) C6N (fun R xs k htv=>?_) (fun xs rs htv hrs=>?_)
 ·match xs,htv.len with
  | [b],_=>exact D1w R b k
 ·match xs,htv.len with
  | [b],_=>exact D2n 5 hrs
def K4:KC:=F3 Tryz.prog T D1x false FU 4
theorem hK4:K4.nat:=B2 B0S 4
theorem hS4:X9 Tryz.prog T K4.dir:=B9 follows B5 B0S 4
def B6U:C71→Vm.St
 | .m z v xs kk at_ ws i=>⟨[(2,.p 0 35 []),(3,.p 1 112 []),(4,.o 2 1),(5,.p 4 113 []),(6,.i .i64 at_),(7,.o 5 1),(8,.i .i64 i)],(.n (some (.box 35 (.v 35 z) false)) (.n (some (.box 112 (.v 112 v) false)) .e (.n (some (.row 98 1 ws false false)) .e .e)) (.n (some (.row 5 1 xs false false)) (.n (some (.box 113 (.v 113 kk) false)) .e .e) .e)),[],6,some []⟩
def D0o (R:Type) (kx:Exit→Vm.St→Option R):C3D→Option R
 | .o z v xs kk at_ ws i=>kx (.exit 2) { B6U (.m z v xs kk at_ ws i) with nx:=16 }
def B4x:Vm.St→Option C71
 | ⟨[(2,.p 0 35 []),(3,.p 1 112 []),(4,.o 2 1),(5,.p 4 113 []),(6,.i .i64 at_),(7,.o 5 1),(8,.i .i64 i)],(.n (some (.box 35 (.v 35 z) false)) (.n (some (.box 112 (.v 112 v) false)) .e (.n (some (.row 98 1 ws false false)) .e .e)) (.n (some (.row 5 1 xs false false)) (.n (some (.box 113 (.v 113 kk) false)) .e .e) .e)),[],6,some []⟩=>some (.m z v xs kk at_ ws i)
 | _=>none
theorem B8l:T0 B4x B6U:=by
 intro _ _ h
 unfold B4x at h
 split at h<;>first | (cases h;rfl) | cases h
theorem C6O:J0 T K4 (fun _=>none) (nT 55) (cT 55 1) 0 [2,3,4,5,6,7,8] 16 B6U B5d D0o:=by
 intro R of x K kx
 cases x<;>kernel_rfl
def C6P:LS:=G0 T K4 (fun _=>none) (nT 55) (cT 55 1) 0 [2,3,4,5,6,7,8] 16 B4x B5d D0o
theorem B6V:D1 Tryz.prog T (nT 55) 0 (cT 55 1) C6P :=
 B7 follows B5 hK4 hS4 A7 (A4 _) B6U B8l C6O
def B6W:C72→Vm.St
 | .m z v xs kk at_ ws x i=>⟨[(2,.p 0 35 []),(3,.p 1 112 []),(4,.o 2 1),(5,.p 4 113 []),(6,.i .i64 at_),(7,.o 5 1),(13,.p 16 112 []),(14,.i .i64 i)],(.n (some (.box 35 (.v 35 z) false)) (.n (some (.box 112 (.v 112 v) false)) .e (.n (some (.row 98 1 ws false false)) .e .e)) (.n (some (.row 5 1 xs false false)) (.n (some (.box 113 (.v 113 kk) false)) (.n none (.n (some (.box 112 (.v 112 x) false)) .e .e) .e) .e) .e)),[],17,some []⟩
def D0p (R:Type) (kx:Exit→Vm.St→Option R):C73→Option R
 | .o z v xs kk at_ ws x i=>kx (.exit 6) { B6W (.m z v xs kk at_ ws x i) with nx:=32 }
def B4y:Vm.St→Option C72
 | ⟨[(2,.p 0 35 []),(3,.p 1 112 []),(4,.o 2 1),(5,.p 4 113 []),(6,.i .i64 at_),(7,.o 5 1),(13,.p 16 112 []),(14,.i .i64 i)],(.n (some (.box 35 (.v 35 z) false)) (.n (some (.box 112 (.v 112 v) false)) .e (.n (some (.row 98 1 ws false false)) .e .e)) (.n (some (.row 5 1 xs false false)) (.n (some (.box 113 (.v 113 kk) false)) (.n none (.n (some (.box 112 (.v 112 x) false)) .e .e) .e) .e) .e)),[],17,some []⟩=>some (.m z v xs kk at_ ws x i)
 | _=>none
theorem B8m:T0 B4y B6W:=by
 intro _ _ h
 unfold B4y at h
 split at h<;>first | (cases h;rfl) | cases h
theorem C6Q:J0 T K4 (fun _=>none) (nT 55) (cT 55 3) 0 [2,3,4,5,6,7,13,14] 32 B6W C3E D0p:=by
 intro R of x K kx
 cases x<;>kernel_rfl
def C6R:LS:=G0 T K4 (fun _=>none) (nT 55) (cT 55 3) 0 [2,3,4,5,6,7,13,14] 32 B4y C3E D0p
theorem B6X:D1 Tryz.prog T (nT 55) 0 (cT 55 3) C6R :=
 B7 follows B5 hK4 hS4 A7 (A4 _) B6W B8m C6Q
def B6Y:C74→Vm.St
 | .m z v xs kk at_=>⟨[(2,.p 0 35 []),(3,.p 1 112 []),(4,.o 2 1),(5,.p 4 113 []),(6,.i .i64 at_)],(.n (some (.box 35 (.v 35 z) false)) (.n (some (.box 112 (.v 112 v) false)) .e .e) (.n (some (.row 5 1 xs false false)) (.n (some (.box 113 (.v 113 kk) false)) .e .e) .e)),[],5,some []⟩
def D0q (R:Type) (kx:Exit→Vm.St→Option R):D2l→Option R
 | .o z v xs kk at_=>kx (.exit 0) { B6Y (.m z v xs kk at_) with nx:=64 }
def B4z:Vm.St→Option C74
 | ⟨[(2,.p 0 35 []),(3,.p 1 112 []),(4,.o 2 1),(5,.p 4 113 []),(6,.i .i64 at_)],(.n (some (.box 35 (.v 35 z) false)) (.n (some (.box 112 (.v 112 v) false)) .e .e) (.n (some (.row 5 1 xs false false)) (.n (some (.box 113 (.v 113 kk) false)) .e .e) .e)),[],5,some []⟩=>some (.m z v xs kk at_)
 | _=>none
theorem B8n:T0 B4z B6Y:=by
 intro _ _ h
 unfold B4z at h
 split at h<;>first | (cases h;rfl) | cases h
theorem C6S:J0 T K4 (loT [(9,C6P),(23,C6R)]) (nT 55) (cT 55 0) 0 [2,3,4,5,6] 64 B6Y C75 D0q:=by
 intro R of x K kx
 cases x<;>kernel_rfl
def D1y:LS:=G0 T K4 (loT [(9,C6P),(23,C6R)]) (nT 55) (cT 55 0) 0 [2,3,4,5,6] 64 B4z C75 D0q
theorem B6Z:D1 Tryz.prog T (nT 55) 0 (cT 55 0) D1y :=
 B7 follows B5 hK4 hS4 (A2A (List.forall_mem_cons.2 ⟨B6V.1,List.forall_mem_cons.2 ⟨B6X.1,fun _ h=>by cases h⟩⟩)) (V8 5 (by kernel_rfl) ⟨⟨⟨⟨⟨trivial,Z8 (s0:=C6P) (by kernel_rfl) ((show lp (lp (H2 Tryz.prog 55) 0) 0=lp (H2 Tryz.prog 55) 1 from by kernel_rfl) ▸ B6V)⟩,loN (by kernel_rfl)⟩,Z8 (s0:=C6R) (by kernel_rfl) ((show lp (lp (H2 Tryz.prog 55) 0) 2=lp (H2 Tryz.prog 55) 3 from by kernel_rfl) ▸ B6X)⟩,loN (by kernel_rfl)⟩,loN (by kernel_rfl)⟩) B6Y B8n C6S
def D1z:Nat→LC:=atN 0 [(5,D1y)]
theorem C6T:H1 Tryz.prog T 55 D1z:=G1 0 (List.forall_mem_cons.2 ⟨B6Z.1,fun _ h=>by cases h⟩) 8 (by kernel_rfl) ⟨⟨⟨⟨⟨⟨⟨⟨trivial,Z8 (s0:=D1y) (by kernel_rfl) B6Z⟩,loN (by kernel_rfl)⟩,loN (by kernel_rfl)⟩,loN (by kernel_rfl)⟩,loN (by kernel_rfl)⟩,loN (by kernel_rfl)⟩,loN (by kernel_rfl)⟩,loN (by kernel_rfl)⟩
theorem D1A (R:Type) (b:V) (k:List Rs→Option R):G7 Tryz.prog T K4 D1z false FU 55 R (P9 T [39] [b]) (fun _=>none) 0 (fun out=>ob (S9 T false [.d 35] out) k)=Gsm 35 R [b] k:=by kernel_rfl
def D1B:List (Nat×D7):=(55,J9 T false [39] (Fsm 35))::D1x
theorem A6j:D5 Tryz.prog T D1B:=by
 refine A4O (sh:=false) (rk:=[.d 35]) (d:=4) (fu:=FU) (Lo:=D1z) (G:=Gsm 35) follows B5 B0S (C8b 35) (by kernel_rfl) C6T (fun R xs k htv=>?_) (fun xs rs htv hrs=>?_)
 ·match xs,htv.len with
  | [b],_=>exact D1A R b k
 ·match xs,htv,htv.len with
  | [b],htv,_ =>
   obtain ⟨e,cs,hx⟩:=htv.head
   obtain ⟨bs,h1,h2⟩:=A8s (T:=T) (el:=5) (kd:=.u8) (by kernel_rfl) (by kernel_rfl) rfl hx
   exact D2s 35 h1 (B7K h2) hrs
def K5:KC:=F3 Tryz.prog T D1B false FU 4
theorem hK5:K5.nat:=B2 A6j 4
theorem hS5:X9 Tryz.prog T K5.dir:=B9 follows B5 A6j 4
end Go.Proofs.YteoeonfajlnggaaGreat
namespace Go.Proofs.YteoeonfajlnggaaGreat
open Go.Vm
set_option maxRecDepth 100000
set_option linter.unusedVariables false
def C0V:List (Nat×Sym):=[(105,(J9 T false [153,39] (C3K (Fmx 153))).dir),(55,(J9 T false [39] (C3K (Fsm 35))).dir),(79,C8h T 39),(166,B11),(167,A8j)]
theorem C0W:C8i Tryz.prog T C0V:=⟨D5.see (D5.at A6i (by kernel_rfl)),D5.see (D5.at A6j (by kernel_rfl)),C3M (u8:=5) (by kernel_rfl) (by kernel_rfl) Tryz.func79 (by kernel_rfl) (by kernel_rfl) (by kernel_rfl) (by kernel_rfl),B5E Tryz.func166 (by kernel_rfl) (by kernel_rfl) (by kernel_rfl) (by kernel_rfl),B3y Tryz.func167 (by kernel_rfl) (by kernel_rfl) (by kernel_rfl) (by kernel_rfl),trivial⟩
theorem B8o:ob (C8j Tryz.prog T C0V 100000 60 6 (P9 T [] []) (fun _=>none) 0) (fun out=>S9 T true [.d 4] out)=some [.d 4 (.b true)]:=by kernel_rfl
def B4A:D7:=J9 T true [] (gF (fun _=>true) (fun _=>[.d 4 (.b true)]))
theorem B4B:B4A.nat:=B0s (B5e _ _)
theorem D3E:J2 Tryz.prog T 6 B4A.dir :=
 B7H (s:=A62 (C8j Tryz.prog T C0V 100000 60 6)) (A45 _) (by rw [A46];exact C8k follows B5 C0W) (rk:=[.d 4]) (B5e _ _) rfl (fun xs rs htv hrs=>by
  have hl:=htv.len
  cases xs with
  | cons _ _=>cases hl
  | nil =>
   obtain ⟨_,rfl⟩:=D0A hrs
   exact B8o)
end Go.Proofs.YteoeonfajlnggaaGreat
namespace Go.Proofs.YteoeonfajlnggaaGreat
open Go.Vm
set_option maxRecDepth 100000
set_option linter.unusedVariables false
set_option linter.constructorNameAsVariable false
def C0X:PHi→Vm.St
 | .b s m l xs n i nl sh=>⟨[(0,.p 0 156 []),(6,.v 117 (.l l)),(7,.i .i64 n),(8,.i .i64 i)],(.n (some (.box 156 (.g 156 [.v 153 s,.o 1 1,.i .u64 m]) false)) (.n (some (.row 5 1 xs nl sh)) .e .e) .e),[0],2,some []⟩
 | .c s m l xs n i off q sh=>⟨[(0,.p 0 156 []),(6,.v 117 (.l l)),(7,.i .i64 n),(8,.i .i64 i)],(.n (some (.box 156 (.g 156 [.v 153 s,.w 1 1 off q,.i .u64 m]) false)) (.n (some (.row 5 1 xs false sh)) .e .e) .e),[0],2,some []⟩
def D3F (R:Type) (kx:Exit→Vm.St→Option R):QHi→Option R
 | .b s m l xs n i nl sh=>kx (.exit 2) { C0X (.b s m l xs n i nl sh) with nx:=16 }
 | .c s m l xs n i off q sh=>kx (.exit 2) { C0X (.c s m l xs n i off q sh) with nx:=16 }
def C0Y:Vm.St→Option PHi
 | ⟨[(0,.p 0 156 []),(6,.v 117 (.l l)),(7,.i .i64 n),(8,.i .i64 i)],(.n (some (.box 156 (.g 156 [.v 153 s,.o 1 1,.i .u64 m]) false)) (.n (some (.row 5 1 xs nl sh)) .e .e) .e),[0],2,some []⟩=>some (.b s m l xs n i nl sh)
 | ⟨[(0,.p 0 156 []),(6,.v 117 (.l l)),(7,.i .i64 n),(8,.i .i64 i)],(.n (some (.box 156 (.g 156 [.v 153 s,.w 1 1 off q,.i .u64 m]) false)) (.n (some (.row 5 1 xs false sh)) .e .e) .e),[0],2,some []⟩=>some (.c s m l xs n i off q sh)
 | _=>none
theorem C0Z:T0 C0Y C0X:=by
 intro _ _ h
 unfold C0Y at h
 split at h<;>first | (cases h;rfl) | cases h
theorem D1C:J0 T K5 (fun _=>none) (nT 86) (cT 86 1) 1 [0,6,7,8] 16 C0X BHi D3F:=by
 intro R of x K kx
 cases x with
 | b _ _ _ _ _ _ nl _=>cases nl<;>kernel_rfl
 | c _ _ _ _ _ _ _ _ _=>kernel_rfl
def HHi:LS:=G0 T K5 (fun _=>none) (nT 86) (cT 86 1) 1 [0,6,7,8] 16 C0Y BHi D3F
theorem B0T:D1 Tryz.prog T (nT 86) 1 (cT 86 1) HHi :=
 B7 follows B5 hK5 hS5 A7 (A4 _) C0X C0Z D1C
def B0U:PHo→Vm.St
 | .a s m l n i=>⟨[(0,.p 0 156 []),(6,.v 117 (.l l)),(7,.i .i64 n),(8,.i .i64 i)],(.n (some (.box 156 (.v 156 (.l [s,.n,.i m])) false)) .e .e),[0],1,some []⟩
 | .b s m l xs n i nl sh=>⟨[(0,.p 0 156 []),(6,.v 117 (.l l)),(7,.i .i64 n),(8,.i .i64 i)],(.n (some (.box 156 (.g 156 [.v 153 s,.o 1 1,.i .u64 m]) false)) (.n (some (.row 5 1 xs nl sh)) .e .e) .e),[0],2,some []⟩
 | .c s m l xs n i off q sh=>⟨[(0,.p 0 156 []),(6,.v 117 (.l l)),(7,.i .i64 n),(8,.i .i64 i)],(.n (some (.box 156 (.g 156 [.v 153 s,.w 1 1 off q,.i .u64 m]) false)) (.n (some (.row 5 1 xs false sh)) .e .e) .e),[0],2,some []⟩
def D3G (R:Type) (kx:Exit→Vm.St→Option R):QHo→Option R
 | .a s m l n i=>kx (.exit 0) { B0U (.a s m l n i) with nx:=64 }
 | .b s m l xs n i nl sh=>kx (.exit 0) { B0U (.b s m l xs n i nl sh) with nx:=64 }
 | .c s m l xs n i off q sh=>kx (.exit 0) { B0U (.c s m l xs n i off q sh) with nx:=64 }
def A6k:Vm.St→Option PHo
 | ⟨[(0,.p 0 156 []),(6,.v 117 (.l l)),(7,.i .i64 n),(8,.i .i64 i)],(.n (some (.box 156 (.v 156 (.l [s,.n,.i m])) false)) .e .e),[0],1,some []⟩=>some (.a s m l n i)
 | _=>none
theorem B4C (τ:Vm.St) (x:PHo) (h:A6k τ=some x):τ=B0U x:=by
 unfold A6k at h
 split at h<;>first | (cases h;rfl) | cases h
def A6l:Vm.St→Option PHo
 | ⟨[(0,.p 0 156 []),(6,.v 117 (.l l)),(7,.i .i64 n),(8,.i .i64 i)],(.n (some (.box 156 (.g 156 [.v 153 s,.o 1 1,.i .u64 m]) false)) (.n (some (.row 5 1 xs nl sh)) .e .e) .e),[0],2,some []⟩=>some (.b s m l xs n i nl sh)
 | _=>none
theorem B4D (τ:Vm.St) (x:PHo) (h:A6l τ=some x):τ=B0U x:=by
 unfold A6l at h
 split at h<;>first | (cases h;rfl) | cases h
def A6m:Vm.St→Option PHo
 | ⟨[(0,.p 0 156 []),(6,.v 117 (.l l)),(7,.i .i64 n),(8,.i .i64 i)],(.n (some (.box 156 (.g 156 [.v 153 s,.w 1 1 off q,.i .u64 m]) false)) (.n (some (.row 5 1 xs false sh)) .e .e) .e),[0],2,some []⟩=>some (.c s m l xs n i off q sh)
 | _=>none
theorem B4E (τ:Vm.St) (x:PHo) (h:A6m τ=some x):τ=B0U x:=by
 unfold A6m at h
 split at h<;>first | (cases h;rfl) | cases h
def C00 (τ:Vm.St):Option PHo:=oc (A6k τ) some (oc (A6l τ) some (oc (A6m τ) some (none)))
theorem C01 (τ:Vm.St) (x:PHo) (h:C00 τ=some x):τ=B0U x:=by
 unfold C00 at h
 cases h0:A6k τ with
 | some y=>rw [h0] at h;cases h;exact B4C τ _ h0
 | none =>
 rw [h0] at h;simp only [oc] at h
 cases h1:A6l τ with
 | some y=>rw [h1] at h;cases h;exact B4D τ _ h1
 | none =>
 rw [h1] at h;simp only [oc] at h
 cases h2:A6m τ with
 | some y=>rw [h2] at h;cases h;exact B4E τ _ h2
 | none =>
 rw [h2] at h;simp only [oc] at h
 cases h
theorem D1D:J0 T K5 (loT [(5,HHi)]) (nT 86) (cT 86 0) 1 [0,6,7,8] 64 B0U BHo D3G:=by
 intro R of x K kx
 cases x<;>kernel_rfl
def HHo:LS:=G0 T K5 (loT [(5,HHi)]) (nT 86) (cT 86 0) 1 [0,6,7,8] 64 C00 BHo D3G
theorem C02:D1 Tryz.prog T (nT 86) 1 (cT 86 0) HHo :=
 B7 follows B5 hK5 hS5 (A2A (List.forall_mem_cons.2 ⟨B0T.1,fun _ h=>by cases h⟩)) (V8 1 (by kernel_rfl) ⟨trivial,Z8 (s0:=HHi) (by kernel_rfl) ((show lp (lp (H2 Tryz.prog 86) 0) 0=lp (H2 Tryz.prog 86) 1 from by kernel_rfl) ▸ B0T)⟩) B0U C01 D1D
def D0r:Nat→LC:=atN 1 [(1,HHo),(5,HHi)]
theorem C03:H1 Tryz.prog T 86 D0r:=G1 1 (List.forall_mem_cons.2 ⟨C02.1,List.forall_mem_cons.2 ⟨B0T.1,fun _ h=>by cases h⟩⟩) 2 (by kernel_rfl) ⟨⟨trivial,Z8 (s0:=HHo) (by kernel_rfl) C02⟩,Z8 (s0:=HHi) (by kernel_rfl) B0T⟩
def C04:PHp→Vm.St
 | .b s m rs nl sh z xs=>⟨[(0,.p 0 156 []),(2,.p 2 35 []),(3,.o 3 1)],(.n (some (.box 156 (.g 156 [.v 153 s,.o 1 1,.i .u64 m]) false)) (.n (some (.row 5 1 rs nl sh)) (.n (some (.row 5 1 xs false false)) .e .e) .e) (.n (some (.box 35 (.v 35 z) false)) .e .e)),[1,0],4,some []⟩
 | .c s m rs off q sh z xs=>⟨[(0,.p 0 156 []),(2,.p 2 35 []),(3,.o 3 1)],(.n (some (.box 156 (.g 156 [.v 153 s,.w 1 1 off q,.i .u64 m]) false)) (.n (some (.row 5 1 rs false sh)) (.n (some (.row 5 1 xs false false)) .e .e) .e) (.n (some (.box 35 (.v 35 z) false)) .e .e)),[1,0],4,some []⟩
def D3H (R:Type) (kx:Exit→Vm.St→Option R):QHp→Option R
 | .b s m rs nl sh z xs=>kx (.exit 0) { C04 (.b s m rs nl sh z xs) with nx:=16 }
 | .c s m rs off q sh z xs=>kx (.exit 0) { C04 (.c s m rs off q sh z xs) with nx:=16 }
def C05:Vm.St→Option PHp
 | ⟨[(0,.p 0 156 []),(2,.p 2 35 []),(3,.o 3 1)],(.n (some (.box 156 (.g 156 [.v 153 s,.o 1 1,.i .u64 m]) false)) (.n (some (.row 5 1 rs nl sh)) (.n (some (.row 5 1 xs false false)) .e .e) .e) (.n (some (.box 35 (.v 35 z) false)) .e .e)),[1,0],4,some []⟩=>some (.b s m rs nl sh z xs)
 | ⟨[(0,.p 0 156 []),(2,.p 2 35 []),(3,.o 3 1)],(.n (some (.box 156 (.g 156 [.v 153 s,.w 1 1 off q,.i .u64 m]) false)) (.n (some (.row 5 1 rs false sh)) (.n (some (.row 5 1 xs false false)) .e .e) .e) (.n (some (.box 35 (.v 35 z) false)) .e .e)),[1,0],4,some []⟩=>some (.c s m rs off q sh z xs)
 | _=>none
theorem C06:T0 C05 C04:=by
 intro _ _ h
 unfold C05 at h
 split at h<;>first | (cases h;rfl) | cases h
theorem D1E:J0 T K5 (fun _=>none) (nT 87) (cT 87 0) 2 [0,2,3] 16 C04 BHp D3H:=by
 intro R of x K kx
 cases x<;>kernel_rfl
def HHp:LS:=G0 T K5 (fun _=>none) (nT 87) (cT 87 0) 2 [0,2,3] 16 C05 BHp D3H
theorem C07:D1 Tryz.prog T (nT 87) 2 (cT 87 0) HHp :=
 B7 follows B5 hK5 hS5 A7 (A4 _) C04 C06 D1E
def A63:PHm→Vm.St
 | .b0 s m rs nl sh z st xs=>⟨[(2,.p 2 35 []),(3,.o 3 1),(6,.p 24 153 [])],(.n (some (.box 156 (.g 156 [.v 153 s,.o 1 1,.i .u64 m]) false)) (.n (some (.row 5 1 rs nl sh)) (.n (some (.row 5 1 xs false false)) .e .e) .e) (.n (some (.box 35 (.v 35 z) false)) (.n none (.n none .e (.n (some (.box 153 (.v 153 st) false)) .e .e)) .e) .e)),[1,0],25,some []⟩
 | .b1 s m rs nl sh z st xs o2 q2=>⟨[(2,.p 2 35 []),(3,.w 3 1 o2 q2),(6,.p 24 153 [])],(.n (some (.box 156 (.g 156 [.v 153 s,.o 1 1,.i .u64 m]) false)) (.n (some (.row 5 1 rs nl sh)) (.n (some (.row 5 1 xs false false)) .e .e) .e) (.n (some (.box 35 (.v 35 z) false)) (.n none (.n none .e (.n (some (.box 153 (.v 153 st) false)) .e .e)) .e) .e)),[1,0],25,some []⟩
 | .c0 s m rs off q sh z st xs=>⟨[(2,.p 2 35 []),(3,.o 3 1),(6,.p 24 153 [])],(.n (some (.box 156 (.g 156 [.v 153 s,.w 1 1 off q,.i .u64 m]) false)) (.n (some (.row 5 1 rs false sh)) (.n (some (.row 5 1 xs false false)) .e .e) .e) (.n (some (.box 35 (.v 35 z) false)) (.n none (.n none .e (.n (some (.box 153 (.v 153 st) false)) .e .e)) .e) .e)),[1,0],25,some []⟩
 | .c1 s m rs off q sh z st xs o2 q2=>⟨[(2,.p 2 35 []),(3,.w 3 1 o2 q2),(6,.p 24 153 [])],(.n (some (.box 156 (.g 156 [.v 153 s,.w 1 1 off q,.i .u64 m]) false)) (.n (some (.row 5 1 rs false sh)) (.n (some (.row 5 1 xs false false)) .e .e) .e) (.n (some (.box 35 (.v 35 z) false)) (.n none (.n none .e (.n (some (.box 153 (.v 153 st) false)) .e .e)) .e) .e)),[1,0],25,some []⟩
def D3I (R:Type) (kx:Exit→Vm.St→Option R):QHm→Option R
 | .b0 s m rs nl sh z st xs=>kx (.exit 4) { A63 (.b0 s m rs nl sh z st xs) with nx:=32 }
 | .b1 s m rs nl sh z st xs o2 q2=>kx (.exit 4) { A63 (.b1 s m rs nl sh z st xs o2 q2) with nx:=32 }
 | .c0 s m rs off q sh z st xs=>kx (.exit 4) { A63 (.c0 s m rs off q sh z st xs) with nx:=32 }
 | .c1 s m rs off q sh z st xs o2 q2=>kx (.exit 4) { A63 (.c1 s m rs off q sh z st xs o2 q2) with nx:=32 }
def A6n:Vm.St→Option PHm
 | ⟨[(2,.p 2 35 []),(3,.o 3 1),(6,.p 24 153 [])],(.n (some (.box 156 (.g 156 [.v 153 s,.o 1 1,.i .u64 m]) false)) (.n (some (.row 5 1 rs nl sh)) (.n (some (.row 5 1 xs false false)) .e .e) .e) (.n (some (.box 35 (.v 35 z) false)) (.n none (.n none .e (.n (some (.box 153 (.v 153 st) false)) .e .e)) .e) .e)),[1,0],25,some []⟩=>some (.b0 s m rs nl sh z st xs)
 | _=>none
theorem B4F (τ:Vm.St) (x:PHm) (h:A6n τ=some x):τ=A63 x:=by
 unfold A6n at h
 split at h<;>first | (cases h;rfl) | cases h
def A6o:Vm.St→Option PHm
 | ⟨[(2,.p 2 35 []),(3,.w 3 1 o2 q2),(6,.p 24 153 [])],(.n (some (.box 156 (.g 156 [.v 153 s,.o 1 1,.i .u64 m]) false)) (.n (some (.row 5 1 rs nl sh)) (.n (some (.row 5 1 xs false false)) .e .e) .e) (.n (some (.box 35 (.v 35 z) false)) (.n none (.n none .e (.n (some (.box 153 (.v 153 st) false)) .e .e)) .e) .e)),[1,0],25,some []⟩=>some (.b1 s m rs nl sh z st xs o2 q2)
 | _=>none
theorem B4G (τ:Vm.St) (x:PHm) (h:A6o τ=some x):τ=A63 x:=by
 unfold A6o at h
 split at h<;>first | (cases h;rfl) | cases h
def A6p:Vm.St→Option PHm
 | ⟨[(2,.p 2 35 []),(3,.o 3 1),(6,.p 24 153 [])],(.n (some (.box 156 (.g 156 [.v 153 s,.w 1 1 off q,.i .u64 m]) false)) (.n (some (.row 5 1 rs false sh)) (.n (some (.row 5 1 xs false false)) .e .e) .e) (.n (some (.box 35 (.v 35 z) false)) (.n none (.n none .e (.n (some (.box 153 (.v 153 st) false)) .e .e)) .e) .e)),[1,0],25,some []⟩=>some (.c0 s m rs off q sh z st xs)
 | _=>none
theorem B4H (τ:Vm.St) (x:PHm) (h:A6p τ=some x):τ=A63 x:=by
 unfold A6p at h
 split at h<;>first | (cases h;rfl) | cases h
def A6q:Vm.St→Option PHm
 | ⟨[(2,.p 2 35 []),(3,.w 3 1 o2 q2),(6,.p 24 153 [])],(.n (some (.box 156 (.g 156 [.v 153 s,.w 1 1 off q,.i .u64 m]) false)) (.n (some (.row 5 1 rs false sh)) (.n (some (.row 5 1 xs false false)) .e .e) .e) (.n (some (.box 35 (.v 35 z) false)) (.n none (.n none .e (.n (some (.box 153 (.v 153 st) false)) .e .e)) .e) .e)),[1,0],25,some []⟩=>some (.c1 s m rs off q sh z st xs o2 q2)
 | _=>none
theorem B4I (τ:Vm.St) (x:PHm) (h:A6q τ=some x):τ=A63 x:=by
 unfold A6q at h
 split at h<;>first | (cases h;rfl) | cases h
def C08 (τ:Vm.St):Option PHm:=oc (A6n τ) some (oc (A6o τ) some (oc (A6p τ) some (oc (A6q τ) some (none))))
theorem C09 (τ:Vm.St) (x:PHm) (h:C08 τ=some x):τ=A63 x:=by
 unfold C08 at h
 cases h0:A6n τ with
 | some y=>rw [h0] at h;cases h;exact B4F τ _ h0
 | none =>
 rw [h0] at h;simp only [oc] at h
 cases h1:A6o τ with
 | some y=>rw [h1] at h;cases h;exact B4G τ _ h1
 | none =>
 rw [h1] at h;simp only [oc] at h
 cases h2:A6p τ with
 | some y=>rw [h2] at h;cases h;exact B4H τ _ h2
 | none =>
 rw [h2] at h;simp only [oc] at h
 cases h3:A6q τ with
 | some y=>rw [h3] at h;cases h;exact B4I τ _ h3
 | none =>
 rw [h3] at h;simp only [oc] at h
 cases h
theorem D1F:J0 T K5 (fun _=>none) (nT 87) (cT 87 2) 2 [2,3,6] 32 A63 BHm D3I:=by
 intro R of x K kx
 cases x<;>kernel_rfl
def HHm:LS:=G0 T K5 (fun _=>none) (nT 87) (cT 87 2) 2 [2,3,6] 32 C08 BHm D3I
theorem C1a:D1 Tryz.prog T (nT 87) 2 (cT 87 2) HHm :=
 B7 follows B5 hK5 hS5 A7 (A4 _) A63 C09 D1F
def D0s:Nat→LC:=atN 2 [(3,HHp),(12,HHm)]
theorem A4e:H1 Tryz.prog T 87 D0s:=G1 2 (List.forall_mem_cons.2 ⟨C07.1,List.forall_mem_cons.2 ⟨C1a.1,fun _ h=>by cases h⟩⟩) 4 (by kernel_rfl) ⟨⟨⟨⟨trivial,Z8 (s0:=HHp) (by kernel_rfl) C07⟩,loN (by kernel_rfl)⟩,Z8 (s0:=HHm) (by kernel_rfl) C1a⟩,loN (by kernel_rfl)⟩
def D3J:List (Nat×D7):=(86,trS (P3 Tryz.prog T K5 D0r false FU 86))::D1B
theorem C6U:D5 Tryz.prog T D3J:=D5.runP follows B5 A6j C03
def D1G:List (Nat×D7):=(87,trS (P3 Tryz.prog T K5 D0s false FU 87))::D3J
theorem B0V:D5 Tryz.prog T D1G :=
 C6U.cons (L6 (U3 hK5 A4e.nat)) (P2 (U3 hK5 A4e.nat) (H3 follows B5 hK5 hS5 A4e.nat A4e.ok).at_)
def K7:KC:=F3 Tryz.prog T D1G false FU 4
theorem hK7:K7.nat:=B2 B0V 4
theorem hS7:X9 Tryz.prog T K7.dir:=B9 follows B5 B0V 4
theorem D1H (l:List V):G7 Tryz.prog T K7 (fun _ _=>none) false FU 72 (List Rs) (P9 T [117] [.l l]) (fun _=>none) 0 (fun out=>S9 T true [.d 35] out)=dsG l (fun x=>some [.d 35 x]):=by kernel_rfl
def D1I:List (Nat×D7):=(72,J9 T true [117] (gF dsg (dsr 35)))::D1G
theorem B0W:D5 Tryz.prog T D1I:=by
 refine F4 (sh:=true) (rk:=[.d 35]) (d:=4) (fu:=FU) (Lo:=(fun _ _=>none)) (ds:=[.slice (.slice (.int .u8))]) follows B5 B0V (by kernel_rfl) C7 40 (by kernel_rfl) (fun xs hd hg=>?_)
 obtain ⟨a,rfl,ha⟩:=A0H hd
 obtain ⟨l,rfl⟩:=D0J hg
 exact (D1H l).trans (D2U ha hg _)
def K8:KC:=F3 Tryz.prog T D1I false FU 4
theorem hK8:K8.nat:=B2 B0W 4
theorem hS8:X9 Tryz.prog T K8.dir:=B9 follows B5 B0W 4
theorem C6V (l:List V):G7 Tryz.prog T K8 (fun _ _=>none) false FU 57 (List Rs) (P9 T [117] [.l l]) (fun _=>none) 0 (fun out=>S9 T true [.d 35] out)=bif dsg [.l l] then some [.d 35 (A59 (A3E (A25 l)))] else none:=by kernel_rfl
end Go.Proofs.YteoeonfajlnggaaGreat
namespace Go.Proofs.YteoeonfajlnggaaGreat
open Go.Vm
set_option maxRecDepth 100000
set_option linter.unusedVariables false
set_option linter.constructorNameAsVariable false
def D1J:List (Nat×D7):=(57,J9 T true [117] (gF dsg (dtr 35)))::D1I
theorem B0X:D5 Tryz.prog T D1J:=by
 refine F4 (sh:=true) (rk:=[.d 35]) (d:=4) (fu:=FU) (Lo:=(fun _ _=>none)) (ds:=[.slice (.slice (.int .u8))]) follows B5 B0W (by kernel_rfl) C7 40 (by kernel_rfl) (fun xs hd hg=>?_)
 obtain ⟨a,rfl,ha⟩:=A0H hd
 obtain ⟨l,rfl⟩:=D0J hg
 refine (C6V l).trans ?_
 rw [hg];rfl
def K9:KC:=F3 Tryz.prog T D1J false FU 4
theorem hK9:K9.nat:=B2 B0X 4
theorem hS9:X9 Tryz.prog T K9.dir:=B9 follows B5 B0X 4
theorem D1K (l:List V):G7 Tryz.prog T K9 (fun _ _=>none) false FU 35 (List Rs) (P9 T [39] [.l l]) (fun _=>none) 0 (fun out=>S9 T true [.d 35] out)=bif Nat.ble l.length 1000000000 then some [.d 35 (B1G (B1G (.l l)))] else none:=by kernel_rfl
def C1b:List (Nat×D7):=(35,J9 T true [39] (gF dwg (dwr 35)))::D1J
theorem A64:D5 Tryz.prog T C1b:=by
 refine F4 (sh:=true) (rk:=[.d 35]) (d:=4) (fu:=FU) (Lo:=(fun _ _=>none)) (ds:=[.slice (.int .u8)]) follows B5 B0X (by kernel_rfl) C7 40 (by kernel_rfl) (fun xs hd hg=>?_)
 obtain ⟨a,rfl,ha⟩:=A0H hd
 obtain ⟨l,rfl,hl⟩:=D4n hg
 refine (D1K l).trans ?_
 rw [hl]
 show some [Rs.d _ (B1G (B1G (.l l)))]=some [Rs.d _ (A59 (A3E (V9 (.l l))))]
 rw [show B1G (B1G (.l l))=A59 (A3E (V9 (.l l))) by unfold B1G A59;rw [Y3 (x:=.l _) rfl]]
def K10:KC:=F3 Tryz.prog T C1b false FU 4
theorem D5j:K10.nat:=B2 A64 4
theorem D5k:X9 Tryz.prog T K10.dir:=B9 follows B5 A64 4
end Go.Proofs.YteoeonfajlnggaaGreat
namespace Go.Proofs.YteoeonfajlnggaaGreat
open Go.Vm
set_option maxRecDepth 100000
set_option linter.unusedVariables false
set_option linter.constructorNameAsVariable false
theorem C6W (bs:List V) (n:Int):G7 Tryz.prog T K10 (fun _ _=>none) false FU 67 (List Rs) (P9 T [39,98,3] [.l bs,.i n,.i 8]) (fun _=>none) 0 (fun out=>S9 T true [.r 5] out)=(Z9 (0+bs.length) <| A8W 8 n bs (fun xs=>some [.r 5 xs false])):=by kernel_rfl
theorem C1c (n:Int):G7 Tryz.prog T K10 (fun _ _=>none) false FU 67 (List Rs) (P9 T [39,98,3] [.n,.i n,.i 8]) (fun _=>none) 0 (fun out=>S9 T true [.r 5] out)=some [.r 5 (Z1 8 n) false]:=by kernel_rfl
theorem C6X (bs:List V) (n:Int):G7 Tryz.prog T K10 (fun _ _=>none) false FU 67 (List Rs) (P9 T [39,98,3] [.l bs,.i n,.i 4]) (fun _=>none) 0 (fun out=>S9 T true [.r 5] out)=(Z9 (0+bs.length) <| A8W 4 n bs (fun xs=>some [.r 5 xs false])):=by kernel_rfl
theorem C1d (n:Int):G7 Tryz.prog T K10 (fun _ _=>none) false FU 67 (List Rs) (P9 T [39,98,3] [.n,.i n,.i 4]) (fun _=>none) 0 (fun out=>S9 T true [.r 5] out)=some [.r 5 (Z1 4 n) false]:=by kernel_rfl
def C1e:List (Nat×D7):=(67,J9 T true [39,98,3] (gF A7N (B25 5)))::C1b
theorem A65:D5 Tryz.prog T C1e:=by
 refine F4 (sh:=true) (rk:=[.r 5]) (d:=4) (fu:=FU) (Lo:=(fun _ _=>none)) (ds:=[.slice (.int .u8),.int .u64,.int .i64]) follows B5 A64 (by kernel_rfl) C7 40 (by kernel_rfl) (fun xs hd hg=>?_)
 obtain ⟨a,b,c,rfl,ha,hb,hc⟩:=C3R hd
 obtain ⟨n,rfl,_⟩:=hb
 obtain ⟨s,rfl,_⟩:=hc
 obtain ⟨hs,hg⟩:=C8l hg
 rcases hs with rfl | rfl
 ·
  ·rcases A2w ha with rfl | ⟨ys,rfl⟩
   ·rw [B7b];exact C1c n
   ·rw [B7b]
    have hl:ys.length≤268435456:=A21 hg
    refine (C6W ys n).trans ?_
    rw [E3 (by omega),A7L _ _ _ _ (by show ys.length+8≤1073741824;omega)];rfl
 ·
  ·rcases A2w ha with rfl | ⟨ys,rfl⟩
   ·rw [B7c];exact C1d n
   ·rw [B7c]
    have hl:ys.length≤268435456:=A21 hg
    refine (C6X ys n).trans ?_
    rw [E3 (by omega),A7L _ _ _ _ (by show ys.length+4≤1073741824;omega)];rfl
def K11:KC:=F3 Tryz.prog T C1e false FU 4
theorem D5l:K11.nat:=B2 A65 4
theorem D5m:X9 Tryz.prog T K11.dir:=B9 follows B5 A65 4
theorem D1L (bs xs:List V):G7 Tryz.prog T K11 (fun _ _=>none) false FU 74 (List Rs) (P9 T [39,117] [.l bs,.l [.l xs]]) (fun _=>none) 0 (fun out=>S9 T true [.r 5] out)=(Z9 (0+bs.length) <| B8S bs xs (fun ys=>some [.r 5 ys false])):=by kernel_rfl
theorem C6Y (bs:List V):G7 Tryz.prog T K11 (fun _ _=>none) false FU 74 (List Rs) (P9 T [39,117] [.l bs,.l [.n]]) (fun _=>none) 0 (fun out=>S9 T true [.r 5] out)=(Z9 (0+bs.length) <| B8S bs [] (fun ys=>some [.r 5 ys false])):=by kernel_rfl
theorem C6Z (xs:List V):G7 Tryz.prog T K11 (fun _ _=>none) false FU 74 (List Rs) (P9 T [39,117] [.n,.l [.l xs]]) (fun _=>none) 0 (fun out=>S9 T true [.r 5] out)=(B8S [] xs (fun ys=>some [.r 5 ys false])):=by kernel_rfl
theorem C1f  : G7 Tryz.prog T K11 (fun _ _=>none) false FU 74 (List Rs) (P9 T [39,117] [.n,.l [.n]]) (fun _=>none) 0 (fun out=>S9 T true [.r 5] out)=(B8S [] [] (fun ys=>some [.r 5 ys false])):=by kernel_rfl
def C1g:List (Nat×D7):=(74,J9 T true [39,117] (gF B26 (D39 5)))::C1e
theorem A66:D5 Tryz.prog T C1g:=by
 refine F4 (sh:=true) (rk:=[.r 5]) (d:=4) (fu:=FU) (Lo:=(fun _ _=>none)) (ds:=[.slice (.int .u8),.slice (.slice (.int .u8))]) follows B5 A65 (by kernel_rfl) C7 40 (by kernel_rfl) (fun xs hd hg=>?_)
 obtain ⟨a,b,rfl,ha,hb⟩:=A5T hd
 rcases hb with rfl | ⟨l,rfl,hl⟩
 ·exact absurd (show false=true from hg) (by decide)
 match l,hl,hg with
 | [x],hl,hg =>
  have hg:=(D5V _ _).mp (show (shb a&&shb x)=true from hg)
  rcases A2w ha with rfl | ⟨ys,rfl⟩<;>rcases A2w (hl x (List.mem_singleton.2 rfl)) with rfl | ⟨zs,rfl⟩
  ·exact (C1f).trans (A4w (by simp) (by simp))
  ·
   have hl2:zs.length≤268435456:=A21 hg.2
   refine (C6Z zs).trans ?_
   rw [A4w (by simp) (by omega)];rfl
  ·
   have hl1:ys.length≤268435456:=A21 hg.1
   refine (C6Y ys ).trans ?_
   rw [E3 (by omega),A4w (by omega) (by simp)];rfl
  ·
   have hl1:ys.length≤268435456:=A21 hg.1
   have hl2:zs.length≤268435456:=A21 hg.2
   refine (D1L ys zs).trans ?_
   rw [E3 (by omega),A4w (by omega) (by omega)];rfl
def K12:KC:=F3 Tryz.prog T C1g false FU 4
theorem D5n:K12.nat:=B2 A66 4
theorem D5o:X9 Tryz.prog T K12.dir:=B9 follows B5 A66 4
theorem D1M (bs:List V) (n:Int):G7 Tryz.prog T K12 (fun _ _=>none) false FU 73 (List Rs) (P9 T [39,98] [.l bs,.i n]) (fun _=>none) 0 (fun out=>S9 T true [.r 5] out)=D2u n bs (fun ys=>some [.r 5 ys false]):=by kernel_rfl
theorem C60 (n:Int):G7 Tryz.prog T K12 (fun _ _=>none) false FU 73 (List Rs) (P9 T [39,98] [.n,.i n]) (fun _=>none) 0 (fun out=>S9 T true [.r 5] out)=C3S n [] (fun ys=>some [.r 5 ys false]):=by kernel_rfl
def C1h:List (Nat×D7):=(73,J9 T true [39,98] (gF D4a (D4b 5)))::C1g
theorem A67:D5 Tryz.prog T C1h:=by
 refine F4 (sh:=true) (rk:=[.r 5]) (d:=4) (fu:=FU) (Lo:=(fun _ _=>none)) (ds:=[.slice (.int .u8),.int .u64]) follows B5 A66 (by kernel_rfl) C7 40 (by kernel_rfl) (fun xs hd hg=>?_)
 obtain ⟨a,b,rfl,ha,hb⟩:=A5T hd
 obtain ⟨n,rfl,_⟩:=hb
 rcases A2w ha with rfl | ⟨ys,rfl⟩
 ·refine (C60 n).trans ?_
  rw [A7M (by simp)];rfl
 ·have hl:ys.length≤268435456:=A21 hg
  refine (D1M ys n).trans ?_
  rw [C3U (by omega)];rfl
def K13:KC:=F3 Tryz.prog T C1h false FU 4
theorem D5p:K13.nat:=B2 A67 4
theorem D5q:X9 Tryz.prog T K13.dir:=B9 follows B5 A67 4
theorem D1N (hs:List V) (n:Int):G7 Tryz.prog T K13 (fun _ _=>none) false FU 64 (List Rs) (P9 T [38] [.l [.l hs,.i n]]) (fun _=>none) 0 (fun out=>S9 T true [.r 5] out)=bif shb (.l ((hs.drop 0).take 32)) then some [.r 5 ((hs.drop 0).take 32++Z1 4 (WU n)) false] else none:=by kernel_rfl
def C1i:List (Nat×D7):=(64,J9 T true [38] (gF D0B (D0C 5)))::C1h
theorem A68:D5 Tryz.prog T C1i:=by
 refine F4 (sh:=true) (rk:=[.r 5]) (d:=4) (fu:=FU) (Lo:=(fun _ _=>none)) (ds:=[.struct [.arr 32 (.int .u8),.int .u32]]) follows B5 A67 (by kernel_rfl) C7 40 (by kernel_rfl) (fun xs hd hg=>?_)
 obtain ⟨a,rfl,ha⟩:=A0H hd
 obtain ⟨hs,n,rfl,hl,h1,h2⟩:=C3W ha
 obtain ⟨m,rfl⟩:=Int.eq_ofNat_of_zero_le h1
 refine (D1N hs _).trans ?_
 rw [show (hs.drop 0).take 32=hs from List.take_of_length_le (by simp;omega),C4 (by omega),show shb (.l hs)=true from D54 (by show hs.length≤268435456;omega)];rfl
def K14:KC:=F3 Tryz.prog T C1i false FU 4
theorem D5r:K14.nat:=B2 A68 4
theorem D5s:X9 Tryz.prog T K14.dir:=B9 follows B5 A68 4
theorem D1O (n:Int):G7 Tryz.prog T K14 (fun _ _=>none) false FU 50 (List Rs) (P9 T [98] [.i n]) (fun _=>none) 0 (fun out=>S9 T true [.r 5] out)=D2t n (fun ys=>some [.r 5 ys false]):=by kernel_rfl
def C1j:List (Nat×D7):=(50,J9 T true [98] (gF D4c (D4d 5)))::C1i
theorem A69:D5 Tryz.prog T C1j:=by
 refine F4 (sh:=true) (rk:=[.r 5]) (d:=4) (fu:=FU) (Lo:=(fun _ _=>none)) (ds:=[.int .u64]) follows B5 A68 (by kernel_rfl) C7 40 (by kernel_rfl) (fun xs hd hg=>?_)
 obtain ⟨a,rfl,ha⟩:=A0H hd
 obtain ⟨n,rfl,h1,h2⟩:=ha
 simp only [lo,hi] at h1 h2
 refine (D1O n).trans ?_
 rw [C3T h1 (by omega)];rfl
def K15:KC:=F3 Tryz.prog T C1j false FU 4
theorem D5t:K15.nat:=B2 A69 4
theorem D5u:X9 Tryz.prog T K15.dir:=B9 follows B5 A69 4
theorem D1P (xs:List V):G7 Tryz.prog T K15 (fun _ _=>none) false FU 52 (List Rs) (P9 T [39] [.l xs]) (fun _=>none) 0 (fun out=>S9 T true [.r 5] out)=(ln xs.length <| Z9 ((Z7 (WU (xs.length:Nat))).length+xs.length) <| some [.r 5 (Z7 (WU (xs.length:Nat))++xs) false]):=by kernel_rfl
theorem C61  : G7 Tryz.prog T K15 (fun _ _=>none) false FU 52 (List Rs) (P9 T [39] [.n]) (fun _=>none) 0 (fun out=>S9 T true [.r 5] out)=some [.r 5 (A0R []) false]:=by kernel_rfl
def C1k:List (Nat×D7):=(52,J9 T true [39] (gF B28 (D4e 5)))::C1j
theorem A7a:D5 Tryz.prog T C1k:=by
 refine F4 (sh:=true) (rk:=[.r 5]) (d:=4) (fu:=FU) (Lo:=(fun _ _=>none)) (ds:=[.slice (.int .u8)]) follows B5 A69 (by kernel_rfl) C7 40 (by kernel_rfl) (fun xs hd hg=>?_)
 obtain ⟨a,rfl,ha⟩:=A0H hd
 rcases A2w ha with rfl | ⟨ys,rfl⟩
 ·exact C61
 ·have hl:ys.length≤268435456:=A21 hg
  have hc:=A1f (ys.length:Nat)
  refine (D1P ys).trans ?_
  rw [G3 (by omega),C4 (by omega),E3 (by omega)];rfl
def K16:KC:=F3 Tryz.prog T C1k false FU 4
theorem D5v:K16.nat:=B2 A7a 4
theorem D5w:X9 Tryz.prog T K16.dir:=B9 follows B5 A7a 4
theorem C62 (n:Int):G7 Tryz.prog T K16 (fun _ _=>none) false FU 49 (List Rs) (P9 T [98,3] [.i n,.i 8]) (fun _=>none) 0 (fun out=>S9 T true [.r 5] out)=some [.r 5 (leD 8 n) false]:=by kernel_rfl
theorem C63 (n:Int):G7 Tryz.prog T K16 (fun _ _=>none) false FU 49 (List Rs) (P9 T [98,3] [.i n,.i 4]) (fun _=>none) 0 (fun out=>S9 T true [.r 5] out)=some [.r 5 (leD 4 n) false]:=by kernel_rfl
def C1l:List (Nat×D7):=(49,J9 T true [98,3] (gF C3V (B27 5)))::C1k
theorem A7b:D5 Tryz.prog T C1l:=by
 refine F4 (sh:=true) (rk:=[.r 5]) (d:=4) (fu:=FU) (Lo:=(fun _ _=>none)) (ds:=[.int .u64,.int .i64]) follows B5 A7a (by kernel_rfl) C7 40 (by kernel_rfl) (fun xs hd hg=>?_)
 obtain ⟨a,b,rfl,ha,hb⟩:=A5T hd
 obtain ⟨n,rfl,h1,h2⟩:=ha
 obtain ⟨s,rfl,_⟩:=hb
 simp only [lo,hi] at h1 h2
 rcases C8m hg with rfl | rfl
 ·rw [C8n]
  refine (C62 n).trans ?_
  rw [A4x 8 h1 (by omega)]
 ·rw [C8o]
  refine (C63 n).trans ?_
  rw [A4x 4 h1 (by omega)]
def K17:KC:=F3 Tryz.prog T C1l false FU 4
theorem D5x:K17.nat:=B2 A7b 4
theorem D5y:X9 Tryz.prog T K17.dir:=B9 follows B5 A7b 4
theorem D1Q (hs:List V) (n:Int):G7 Tryz.prog T K17 (fun _ _=>none) false FU 51 (List Rs) (P9 T [38] [.l [.l hs,.i n]]) (fun _=>none) 0 (fun out=>S9 T true [.r 5] out)=(Z9 (0+((hs.drop 0).take 32).length) <| Z9 (((hs.drop 0).take 32).length+4) <| some [.r 5 ((hs.drop 0).take 32++Z1 4 (WU n)) false]):=by kernel_rfl
def C1m:List (Nat×D7):=(51,J9 T true [38] (gF D0B (D0C 5)))::C1l
theorem A7c:D5 Tryz.prog T C1m:=by
 refine F4 (sh:=true) (rk:=[.r 5]) (d:=4) (fu:=FU) (Lo:=(fun _ _=>none)) (ds:=[.struct [.arr 32 (.int .u8),.int .u32]]) follows B5 A7b (by kernel_rfl) C7 40 (by kernel_rfl) (fun xs hd hg=>?_)
 obtain ⟨a,rfl,ha⟩:=A0H hd
 obtain ⟨hs,n,rfl,hl,h1,h2⟩:=C3W ha
 obtain ⟨m,rfl⟩:=Int.eq_ofNat_of_zero_le h1
 refine (D1Q hs _).trans ?_
 rw [show (hs.drop 0).take 32=hs from List.take_of_length_le (by simp;omega),C4 (by omega),E3 (by omega),E3 (by omega)];rfl
def K18:KC:=F3 Tryz.prog T C1m false FU 4
theorem D3K:K18.nat:=B2 A7c 4
theorem D3L:X9 Tryz.prog T K18.dir:=B9 follows B5 A7c 4
end Go.Proofs.YteoeonfajlnggaaGreat
namespace Go.Proofs.YteoeonfajlnggaaGreat
open Go.Vm
set_option maxRecDepth 100000
set_option linter.unusedVariables false
set_option linter.constructorNameAsVariable false
def C64:PTi→Vm.St
 | .m t l bs n i=>⟨[(1,.p 0 27 []),(3,.o 1 1),(18,.v 24 l),(19,.i .i64 n),(20,.i .i64 i)],(.n (some (.box 27 (.v 27 t) false)) (.n (some (.row 5 1 bs false false)) .e .e) .e),[],2,some []⟩
def D3M (R:Type) (kx:Exit→Vm.St→Option R):QTi→Option R
 | .o t l bs n i=>kx (.exit 0) { C64 (.m t l bs n i) with nx:=64 }
def C1n:Vm.St→Option PTi
 | ⟨[(1,.p 0 27 []),(3,.o 1 1),(18,.v 24 l),(19,.i .i64 n),(20,.i .i64 i)],(.n (some (.box 27 (.v 27 t) false)) (.n (some (.row 5 1 bs false false)) .e .e) .e),[],2,some []⟩=>some (.m t l bs n i)
 | _=>none
theorem C1o:T0 C1n C64:=by
 intro _ _ h
 unfold C1n at h
 split at h<;>first | (cases h;rfl) | cases h
theorem D1R:J0 T K18 (fun _=>none) (nT 58) (cT 58 0) 0 [999999,1,3,18,19,20] 64 C64 BTi D3M:=by
 intro R of x K kx
 cases x<;>kernel_rfl
def HTi:LS:=G0 T K18 (fun _=>none) (nT 58) (cT 58 0) 0 [999999,1,3,18,19,20] 64 C1n BTi D3M
theorem C1p:D1 Tryz.prog T (nT 58) 0 (cT 58 0) HTi :=
 B7 follows B5 D3K D3L A7 (A4 _) C64 C1o D1R
def C65:PTo→Vm.St
 | .m t l bs n i=>⟨[(1,.p 0 27 []),(3,.o 1 1),(46,.v 25 l),(47,.i .i64 n),(48,.i .i64 i)],(.n (some (.box 27 (.v 27 t) false)) (.n (some (.row 5 1 bs false false)) .e .e) .e),[],2,some []⟩
def D3N (R:Type) (kx:Exit→Vm.St→Option R):QTo→Option R
 | .o t l bs n i=>kx (.exit 2) { C65 (.m t l bs n i) with nx:=128 }
def C1q:Vm.St→Option PTo
 | ⟨[(1,.p 0 27 []),(3,.o 1 1),(46,.v 25 l),(47,.i .i64 n),(48,.i .i64 i)],(.n (some (.box 27 (.v 27 t) false)) (.n (some (.row 5 1 bs false false)) .e .e) .e),[],2,some []⟩=>some (.m t l bs n i)
 | _=>none
theorem C1r:T0 C1q C65:=by
 intro _ _ h
 unfold C1q at h
 split at h<;>first | (cases h;rfl) | cases h
theorem D1S:J0 T K18 (fun _=>none) (nT 58) (cT 58 1) 0 [999999,1,3,46,47,48] 128 C65 BTo D3N:=by
 intro R of x K kx
 cases x<;>kernel_rfl
def HTo:LS:=G0 T K18 (fun _=>none) (nT 58) (cT 58 1) 0 [999999,1,3,46,47,48] 128 C1q BTo D3N
theorem C1s:D1 Tryz.prog T (nT 58) 0 (cT 58 1) HTo :=
 B7 follows B5 D3K D3L A7 (A4 _) C65 C1r D1S
def D1T:Nat→LC:=atN 0 [(3,HTi),(10,HTo)]
theorem C66:H1 Tryz.prog T 58 D1T:=G1 0 (List.forall_mem_cons.2 ⟨C1p.1,List.forall_mem_cons.2 ⟨C1s.1,fun _ h=>by cases h⟩⟩) 2 (by kernel_rfl) ⟨⟨trivial,Z8 (s0:=HTi) (by kernel_rfl) C1p⟩,Z8 (s0:=HTo) (by kernel_rfl) C1s⟩
theorem C67 (v u:Int) (a b:V):G7 Tryz.prog T K18 D1T false FU 58 (List Rs) (P9 T [27] [.l [.i v,a,b,.i u]]) (fun _=>none) 0 (fun out=>S9 T true [.r 5] out)=txW v u a b (fun xs=>some [.r 5 xs false]):=by kernel_rfl
def C1t:List (Nat×D7):=(58,J9 T true [27] (gF txg (txr 5)))::C1m
theorem A7d:D5 Tryz.prog T C1t:=by
 refine F4 (sh:=true) (rk:=[.r 5]) (d:=4) (fu:=FU) (Lo:=D1T) (ds:=[DTx]) follows B5 A7c (by kernel_rfl) C66 40 (by kernel_rfl) (fun xs hd hg=>?_)
 obtain ⟨a,rfl,ha⟩:=A0H hd
 obtain ⟨v,x,y,u,rfl,_,hx,hy,_⟩:=B9h ha
 exact (C67 v u x y).trans (B7w _ hx hy hg).1
def K19:KC:=F3 Tryz.prog T C1t false FU 4
theorem D3O:K19.nat:=B2 A7d 4
theorem D3P:X9 Tryz.prog T K19.dir:=B9 follows B5 A7d 4
def C68:PXi→Vm.St
 | .m t l bs n i=>⟨[(1,.p 0 27 []),(3,.o 1 1),(20,.v 24 l),(21,.i .i64 n),(22,.i .i64 i)],(.n (some (.box 27 (.v 27 t) false)) (.n (some (.row 5 1 bs false false)) .e .e) .e),[],2,some []⟩
def D3Q (R:Type) (kx:Exit→Vm.St→Option R):QXi→Option R
 | .o t l bs n i=>kx (.exit 0) { C68 (.m t l bs n i) with nx:=64 }
def C1u:Vm.St→Option PXi
 | ⟨[(1,.p 0 27 []),(3,.o 1 1),(20,.v 24 l),(21,.i .i64 n),(22,.i .i64 i)],(.n (some (.box 27 (.v 27 t) false)) (.n (some (.row 5 1 bs false false)) .e .e) .e),[],2,some []⟩=>some (.m t l bs n i)
 | _=>none
theorem C1v:T0 C1u C68:=by
 intro _ _ h
 unfold C1u at h
 split at h<;>first | (cases h;rfl) | cases h
theorem D1U:J0 T K19 (fun _=>none) (nT 31) (cT 31 0) 0 [999999,1,3,20,21,22] 64 C68 BXi D3Q:=by
 intro R of x K kx
 cases x<;>kernel_rfl
def HXi:LS:=G0 T K19 (fun _=>none) (nT 31) (cT 31 0) 0 [999999,1,3,20,21,22] 64 C1u BXi D3Q
theorem C1w:D1 Tryz.prog T (nT 31) 0 (cT 31 0) HXi :=
 B7 follows B5 D3O D3P A7 (A4 _) C68 C1v D1U
def C69:PXo→Vm.St
 | .m t l bs n i=>⟨[(1,.p 0 27 []),(3,.o 1 1),(51,.v 25 l),(52,.i .i64 n),(53,.i .i64 i)],(.n (some (.box 27 (.v 27 t) false)) (.n (some (.row 5 1 bs false false)) .e .e) .e),[],2,some []⟩
def D3R (R:Type) (kx:Exit→Vm.St→Option R):QXo→Option R
 | .o t l bs n i=>kx (.exit 2) { C69 (.m t l bs n i) with nx:=128 }
def C1x:Vm.St→Option PXo
 | ⟨[(1,.p 0 27 []),(3,.o 1 1),(51,.v 25 l),(52,.i .i64 n),(53,.i .i64 i)],(.n (some (.box 27 (.v 27 t) false)) (.n (some (.row 5 1 bs false false)) .e .e) .e),[],2,some []⟩=>some (.m t l bs n i)
 | _=>none
theorem C1y:T0 C1x C69:=by
 intro _ _ h
 unfold C1x at h
 split at h<;>first | (cases h;rfl) | cases h
theorem D1V:J0 T K19 (fun _=>none) (nT 31) (cT 31 1) 0 [999999,1,3,51,52,53] 128 C69 BXo D3R:=by
 intro R of x K kx
 cases x<;>kernel_rfl
def HXo:LS:=G0 T K19 (fun _=>none) (nT 31) (cT 31 1) 0 [999999,1,3,51,52,53] 128 C1x BXo D3R
theorem C1z:D1 Tryz.prog T (nT 31) 0 (cT 31 1) HXo :=
 B7 follows B5 D3O D3P A7 (A4 _) C69 C1y D1V
def D1W:Nat→LC:=atN 0 [(4,HXi),(12,HXo)]
theorem C7a:H1 Tryz.prog T 31 D1W:=G1 0 (List.forall_mem_cons.2 ⟨C1w.1,List.forall_mem_cons.2 ⟨C1z.1,fun _ h=>by cases h⟩⟩) 2 (by kernel_rfl) ⟨⟨trivial,Z8 (s0:=HXi) (by kernel_rfl) C1w⟩,Z8 (s0:=HXo) (by kernel_rfl) C1z⟩
theorem C7b (v u:Int) (a b:V):G7 Tryz.prog T K19 D1W false FU 31 (List Rs) (P9 T [27] [.l [.i v,a,b,.i u]]) (fun _=>none) 0 (fun out=>S9 T true [.r 5] out)=txD v u a b (fun xs=>some [.r 5 xs false]):=by kernel_rfl
def C1A:List (Nat×D7):=(31,J9 T true [27] (gF txg (txr 5)))::C1t
theorem A7e:D5 Tryz.prog T C1A:=by
 refine F4 (sh:=true) (rk:=[.r 5]) (d:=4) (fu:=FU) (Lo:=D1W) (ds:=[DTx]) follows B5 A7d (by kernel_rfl) C7a 40 (by kernel_rfl) (fun xs hd hg=>?_)
 obtain ⟨a,rfl,ha⟩:=A0H hd
 obtain ⟨v,x,y,u,rfl,_,hx,hy,_⟩:=B9h ha
 exact (C7b v u x y).trans (B7w _ hx hy hg).2
def K20:KC:=F3 Tryz.prog T C1A false FU 4
theorem D5z:K20.nat:=B2 A7e 4
theorem D5A:X9 Tryz.prog T K20.dir:=B9 follows B5 A7e 4
theorem C1B (t:V):G7 Tryz.prog T K20 (fun _ _=>none) false FU 39 (List Rs) (P9 T [27] [t]) (fun _=>none) 0 (fun out=>S9 T true [.d 35] out)=C4K 35 t:=by kernel_rfl
def C1C:List (Nat×D7):=(39,J9 T true [27] (gF txg (C8P 35)))::C1A
theorem A7f:D5 Tryz.prog T C1C:=by
 refine F4 (sh:=true) (rk:=[.d 35]) (d:=4) (fu:=FU) (Lo:=(fun _ _=>none)) (ds:=[DTx]) follows B5 A7e (by kernel_rfl) C7 40 (by kernel_rfl) (fun xs hd hg=>?_)
 obtain ⟨a,rfl,ha⟩:=A0H hd
 exact (C1B a).trans (B7x ha hg).1
def K21:KC:=F3 Tryz.prog T C1C false FU 4
theorem D5B:K21.nat:=B2 A7f 4
theorem D5C:X9 Tryz.prog T K21.dir:=B9 follows B5 A7f 4
theorem C1D (t:V):G7 Tryz.prog T K21 (fun _ _=>none) false FU 12 (List Rs) (P9 T [27] [t]) (fun _=>none) 0 (fun out=>S9 T true [.d 35] out)=C4L 35 t:=by kernel_rfl
def C1E:List (Nat×D7):=(12,J9 T true [27] (gF txg (C8P 35)))::C1C
theorem A7g:D5 Tryz.prog T C1E:=by
 refine F4 (sh:=true) (rk:=[.d 35]) (d:=4) (fu:=FU) (Lo:=(fun _ _=>none)) (ds:=[DTx]) follows B5 A7f (by kernel_rfl) C7 40 (by kernel_rfl) (fun xs hd hg=>?_)
 obtain ⟨a,rfl,ha⟩:=A0H hd
 exact (C1D a).trans (B7x ha hg).2
def K22:KC:=F3 Tryz.prog T C1E false FU 4
theorem D5D:K22.nat:=B2 A7g 4
theorem D5E:X9 Tryz.prog T K22.dir:=B9 follows B5 A7g 4
end Go.Proofs.YteoeonfajlnggaaGreat
namespace Go.Proofs.YteoeonfajlnggaaGreat
open Go.Vm
set_option maxRecDepth 100000
set_option linter.unusedVariables false
set_option linter.constructorNameAsVariable false
theorem D1X (v h:Int) (k:V) (q:Bool):G7 Tryz.prog T K22 (fun _ _=>none) false FU 34 (List Rs) (P9 T [43] [.l [.l [.i v,k],.i h,.b q]]) (fun _=>none) 0 (fun out=>S9 T true [.d 43] out)=cpG 43 v h k q:=by kernel_rfl
def C1F:List (Nat×D7):=(34,J9 T true [43] (gF cpg (cpr 43)))::C1E
theorem A4f:D5 Tryz.prog T C1F:=by
 refine F4 (sh:=true) (rk:=[.d 43]) (d:=4) (fu:=FU) (Lo:=(fun _ _=>none)) (ds:=[B7e]) follows B5 A7g (by kernel_rfl) C7 40 (by kernel_rfl) (fun xs hd hg=>?_)
 obtain ⟨a,rfl,ha⟩:=A0H hd
 obtain ⟨v,k,h,q,rfl,_,hk,_⟩:=A6d ha
 exact (D1X v h k q).trans (C52 hk hg)
def K23:KC:=F3 Tryz.prog T C1F false FU 4
theorem D5F:K23.nat:=B2 A4f 4
theorem D5G:X9 Tryz.prog T K23.dir:=B9 follows B5 A4f 4
theorem C7c (v u:Int) (x y:V):G7 Tryz.prog T K23 (fun _ _=>none) false FU 38 (List Rs) (P9 T [27] [.l [.i v,x,y,.i u]]) (fun _=>none) 0 (fun out=>S9 T true [.d 4] out)=bsG 4 x:=by kernel_rfl
def C1G:List (Nat×D7):=(38,J9 T true [27] (gF bsg (bsr 4)))::C1F
theorem A7h:D5 Tryz.prog T C1G:=by
 refine F4 (sh:=true) (rk:=[.d 4]) (d:=4) (fu:=FU) (Lo:=(fun _ _=>none)) (ds:=[DTx]) follows B5 A4f (by kernel_rfl) C7 40 (by kernel_rfl) (fun xs hd hg=>?_)
 obtain ⟨a,rfl,ha⟩:=A0H hd
 obtain ⟨v,x,y,u,rfl,_⟩:=B9h ha
 exact (C7c v u x y).trans (D0Z hg)
def K24:KC:=F3 Tryz.prog T C1G false FU 4
theorem D4X:K24.nat:=B2 A7h 4
theorem D4Y:X9 Tryz.prog T K24.dir:=B9 follows B5 A7h 4
def C1H:PRg→Vm.St
 | .m l s n i=>⟨[(2,.b false),(3,.i .i64 s),(6,.v 22 l),(7,.i .i64 n),(8,.i .i64 i)],.e,[],0,some []⟩
def D3S (R:Type) (kx:Exit→Vm.St→Option R):QRg→Option R
 | .o l s n i=>kx (.exit 0) { C1H (.m l s n i) with nx:=64 }
 | .r l s n i=>kx (.ret) { C1H (.m l s n i) with nx:=64 }
def C1I:Vm.St→Option PRg
 | ⟨[(2,.b false),(3,.i .i64 s),(6,.v 22 l),(7,.i .i64 n),(8,.i .i64 i)],.e,[],0,some []⟩=>some (.m l s n i)
 | _=>none
theorem C1J:T0 C1I C1H:=by
 intro _ _ h
 unfold C1I at h
 split at h<;>first | (cases h;rfl) | cases h
theorem D1Y:J0 T K24 (fun _=>none) (nT 7) (cT 7 0) 0 [999999,2,3,6,7,8] 64 C1H BRg D3S:=by
 intro R of x K kx
 cases x<;>kernel_rfl
def HRg:LS:=G0 T K24 (fun _=>none) (nT 7) (cT 7 0) 0 [999999,2,3,6,7,8] 64 C1I BRg D3S
theorem C1K:D1 Tryz.prog T (nT 7) 0 (cT 7 0) HRg :=
 B7 follows B5 D4X D4Y A7 (A4 _) C1H C1J D1Y
def D1Z:Nat→LC:=atN 0 [(3,HRg)]
theorem C7d:H1 Tryz.prog T 7 D1Z:=G1 0 (List.forall_mem_cons.2 ⟨C1K.1,fun _ h=>by cases h⟩) 1 (by kernel_rfl) ⟨trivial,Z8 (s0:=HRg) (by kernel_rfl) C1K⟩
theorem D10 (l:V):G7 Tryz.prog T K24 D1Z false FU 7 (List Rs) (P9 T [22] [l]) (fun _=>none) 0 (fun out=>S9 T true [.d 4] out)=rgC l (fun q=>some [.d 4 (.b q)]):=by kernel_rfl
def C1L:List (Nat×D7):=(7,J9 T true [22] (gF rgg (rgr 4)))::C1G
theorem A7i:D5 Tryz.prog T C1L:=by
 refine F4 (sh:=true) (rk:=[.d 4]) (d:=4) (fu:=FU) (Lo:=D1Z) (ds:=[.slice A0i]) follows B5 A7h (by kernel_rfl) C7d 40 (by kernel_rfl) (fun xs hd hg=>?_)
 obtain ⟨a,rfl,ha⟩:=A0H hd
 exact (D10 a).trans (C53 ha hg)
def K25:KC:=F3 Tryz.prog T C1L false FU 4
theorem D3T:K25.nat:=B2 A7i 4
theorem D3U:X9 Tryz.prog T K25.dir:=B9 follows B5 A7i 4
def C7e:PGa→Vm.St
 | .m t l n i=>⟨[(1,.p 0 27 []),(2,.b false),(18,.v 24 l),(19,.i .i64 n),(20,.i .i64 i)],(.n (some (.box 27 (.v 27 t) false)) .e .e),[],1,some []⟩
def D3V (R:Type) (kx:Exit→Vm.St→Option R):QGa→Option R
 | .o t l n i=>kx (.exit 0) { C7e (.m t l n i) with nx:=64 }
 | .r t l n i=>kx (.ret) ⟨[(1,.p 0 27 []),(2,.b true),(18,.v 24 l),(19,.i .i64 n),(20,.i .i64 i)],(.n (some (.box 27 (.v 27 t) false)) .e .e),[],64,some []⟩
def C1M:Vm.St→Option PGa
 | ⟨[(1,.p 0 27 []),(2,.b false),(18,.v 24 l),(19,.i .i64 n),(20,.i .i64 i)],(.n (some (.box 27 (.v 27 t) false)) .e .e),[],1,some []⟩=>some (.m t l n i)
 | _=>none
theorem C1N:T0 C1M C7e:=by
 intro _ _ h
 unfold C1M at h
 split at h<;>first | (cases h;rfl) | cases h
theorem D11:J0 T K25 (fun _=>none) (nT 8) (cT 8 0) 0 [999999,1,2,18,19,20] 64 C7e BGa D3V:=by
 intro R of x K kx
 cases x<;>kernel_rfl
def HGa:LS:=G0 T K25 (fun _=>none) (nT 8) (cT 8 0) 0 [999999,1,2,18,19,20] 64 C1M BGa D3V
theorem C1O:D1 Tryz.prog T (nT 8) 0 (cT 8 0) HGa :=
 B7 follows B5 D3T D3U A7 (A4 _) C7e C1N D11
def C7f:PGb→Vm.St
 | .m t l n i=>⟨[(1,.p 0 27 []),(2,.b false),(30,.v 25 l),(31,.i .i64 n),(32,.i .i64 i)],(.n (some (.box 27 (.v 27 t) false)) .e .e),[],1,some []⟩
def D3W (R:Type) (kx:Exit→Vm.St→Option R):QGb→Option R
 | .o t l n i=>kx (.exit 2) { C7f (.m t l n i) with nx:=128 }
 | .r t l n i=>kx (.ret) ⟨[(1,.p 0 27 []),(2,.b true),(30,.v 25 l),(31,.i .i64 n),(32,.i .i64 i)],(.n (some (.box 27 (.v 27 t) false)) .e .e),[],128,some []⟩
def C1P:Vm.St→Option PGb
 | ⟨[(1,.p 0 27 []),(2,.b false),(30,.v 25 l),(31,.i .i64 n),(32,.i .i64 i)],(.n (some (.box 27 (.v 27 t) false)) .e .e),[],1,some []⟩=>some (.m t l n i)
 | _=>none
theorem C1Q:T0 C1P C7f:=by
 intro _ _ h
 unfold C1P at h
 split at h<;>first | (cases h;rfl) | cases h
theorem D12:J0 T K25 (fun _=>none) (nT 8) (cT 8 1) 0 [999999,1,2,30,31,32] 128 C7f BGb D3W:=by
 intro R of x K kx
 cases x<;>kernel_rfl
def HGb:LS:=G0 T K25 (fun _=>none) (nT 8) (cT 8 1) 0 [999999,1,2,30,31,32] 128 C1P BGb D3W
theorem C1R:D1 Tryz.prog T (nT 8) 0 (cT 8 1) HGb :=
 B7 follows B5 D3T D3U A7 (A4 _) C7f C1Q D12
def D13:Nat→LC:=atN 0 [(4,HGa),(10,HGb)]
theorem C7g:H1 Tryz.prog T 8 D13:=G1 0 (List.forall_mem_cons.2 ⟨C1O.1,List.forall_mem_cons.2 ⟨C1R.1,fun _ h=>by cases h⟩⟩) 2 (by kernel_rfl) ⟨⟨trivial,Z8 (s0:=HGa) (by kernel_rfl) C1O⟩,Z8 (s0:=HGb) (by kernel_rfl) C1R⟩
theorem D14 (v u:Int) (x y:V):G7 Tryz.prog T K25 D13 false FU 8 (List Rs) (P9 T [27] [.l [.i v,x,y,.i u]]) (fun _=>none) 0 (fun out=>S9 T true [.d 4] out)=gtC v u x y (fun q=>some [.d 4 (.b q)]):=by kernel_rfl
def C1S:List (Nat×D7):=(8,J9 T true [27] (gF gtg (gtr 4)))::C1L
theorem A7j:D5 Tryz.prog T C1S:=by
 refine F4 (sh:=true) (rk:=[.d 4]) (d:=4) (fu:=FU) (Lo:=D13) (ds:=[DTx]) follows B5 A7i (by kernel_rfl) C7g 40 (by kernel_rfl) (fun xs hd hg=>?_)
 obtain ⟨a,rfl,ha⟩:=A0H hd
 obtain ⟨v,x,y,u,rfl,_⟩:=B9h ha
 exact (D14 v u x y).trans (C54 hg)
def K26:KC:=F3 Tryz.prog T C1S false FU 4
theorem B0Y:K26.nat:=B2 A7j 4
theorem C1T:X9 Tryz.prog T K26.dir:=B9 follows B5 A7j 4
end Go.Proofs.YteoeonfajlnggaaGreat
namespace Go.Proofs.YteoeonfajlnggaaGreat
open Go.Vm
set_option maxRecDepth 100000
set_option linter.unusedVariables false
set_option linter.constructorNameAsVariable false
def C7h:PNw→Vm.St
 | .m l es n i=>⟨[(3,.p 0 81 []),(9,.v 22 l),(10,.i .i64 n),(11,.i .i64 i)],(.n (some (.box 81 (.g 81 [.m 1]) false)) (.n (some (.vm 38 43 es)) .e .e) .e),[],2,some []⟩
def D3X (R:Type) (kx:Exit→Vm.St→Option R):QNw→Option R
 | .o l es n i=>kx (.exit 0) { C7h (.m l es n i) with nx:=64 }
def C1U:Vm.St→Option PNw
 | ⟨[(3,.p 0 81 []),(9,.v 22 l),(10,.i .i64 n),(11,.i .i64 i)],(.n (some (.box 81 (.g 81 [.m 1]) false)) (.n (some (.vm 38 43 es)) .e .e) .e),[],2,some []⟩=>some (.m l es n i)
 | _=>none
theorem C1V:T0 C1U C7h:=by
 intro _ _ h
 unfold C1U at h
 split at h<;>first | (cases h;rfl) | cases h
theorem D15:J0 T K26 (fun _=>none) (nT 11) (cT 11 0) 0 [999999,3,9,10,11] 64 C7h BNw D3X:=by
 intro R of x K kx
 cases x<;>kernel_rfl
def HNw:LS:=G0 T K26 (fun _=>none) (nT 11) (cT 11 0) 0 [999999,3,9,10,11] 64 C1U BNw D3X
theorem C1W:D1 Tryz.prog T (nT 11) 0 (cT 11 0) HNw :=
 B7 follows B5 B0Y C1T A7 (A4 _) C7h C1V D15
def D3Y:Nat→LC:=atN 0 [(3,HNw)]
theorem A6r:H1 Tryz.prog T 11 D3Y:=G1 0 (List.forall_mem_cons.2 ⟨C1W.1,fun _ h=>by cases h⟩) 1 (by kernel_rfl) ⟨trivial,Z8 (s0:=HNw) (by kernel_rfl) C1W⟩
def C7i:PAi→Vm.St
 | .m es t l h b xs nl n i=>⟨[(0,.p 0 81 []),(2,.i .i64 h),(4,.p 2 27 []),(7,.o 3 1),(8,.b b),(19,.v 24 l),(20,.i .i64 n),(21,.i .i64 i)],(.n (some (.box 81 (.g 81 [.m 1]) false)) (.n (some (.vm 38 43 es)) (.n (some (.row 45 1 xs nl false)) .e .e) .e) (.n (some (.box 27 (.v 27 t) false)) .e .e)),[1,0],4,some []⟩
def D3Z (R:Type) (kx:Exit→Vm.St→Option R):QAi→Option R
 | .o es t l h b xs nl n i=>kx (.exit 0) { C7i (.m es t l h b xs nl n i) with nx:=64 }
def C1X:Vm.St→Option PAi
 | ⟨[(0,.p 0 81 []),(2,.i .i64 h),(4,.p 2 27 []),(7,.o 3 1),(8,.b b),(19,.v 24 l),(20,.i .i64 n),(21,.i .i64 i)],(.n (some (.box 81 (.g 81 [.m 1]) false)) (.n (some (.vm 38 43 es)) (.n (some (.row 45 1 xs nl false)) .e .e) .e) (.n (some (.box 27 (.v 27 t) false)) .e .e)),[1,0],4,some []⟩=>some (.m es t l h b xs nl n i)
 | _=>none
theorem C1Y:T0 C1X C7i:=by
 intro _ _ h
 unfold C1X at h
 split at h<;>first | (cases h;rfl) | cases h
theorem D16:J0 T K26 (fun _=>none) (nT 16) (cT 16 0) 2 [999999,0,2,4,7,8,19,20,21] 64 C7i BAi D3Z:=by
 intro R of x K kx
 cases x<;>kernel_rfl
def HAi:LS:=G0 T K26 (fun _=>none) (nT 16) (cT 16 0) 2 [999999,0,2,4,7,8,19,20,21] 64 C1X BAi D3Z
theorem C1Z:D1 Tryz.prog T (nT 16) 2 (cT 16 0) HAi :=
 B7 follows B5 B0Y C1T A7 (A4 _) C7i C1Y D16
def C7j:PAo→Vm.St
 | .m es h b xs nl d l n i=>⟨[(0,.p 0 81 []),(2,.i .i64 h),(7,.o 2 1),(8,.b b),(13,.p 3 35 []),(58,.v 25 l),(59,.i .i64 n),(60,.i .i64 i)],(.n (some (.box 81 (.g 81 [.m 1]) false)) (.n (some (.vm 38 43 es)) (.n (some (.box 35 (.v 35 d) false)) .e .e) .e) (.n (some (.row 45 1 xs nl false)) .e .e)),[1,0],4,some []⟩
def D30 (R:Type) (kx:Exit→Vm.St→Option R):QAo→Option R
 | .o es h b xs nl d l n i=>kx (.exit 2) { C7j (.m es h b xs nl d l n i) with nx:=128 }
def C10:Vm.St→Option PAo
 | ⟨[(0,.p 0 81 []),(2,.i .i64 h),(7,.o 2 1),(8,.b b),(13,.p 3 35 []),(58,.v 25 l),(59,.i .i64 n),(60,.i .i64 i)],(.n (some (.box 81 (.g 81 [.m 1]) false)) (.n (some (.vm 38 43 es)) (.n (some (.box 35 (.v 35 d) false)) .e .e) .e) (.n (some (.row 45 1 xs nl false)) .e .e)),[1,0],4,some []⟩=>some (.m es h b xs nl d l n i)
 | _=>none
theorem C11:T0 C10 C7j:=by
 intro _ _ h
 unfold C10 at h
 split at h<;>first | (cases h;rfl) | cases h
theorem D17:J0 T K26 (fun _=>none) (nT 16) (cT 16 1) 2 [999999,0,2,7,8,13,58,59,60] 128 C7j BAo D30:=by
 intro R of x K kx
 cases x<;>kernel_rfl
def HAo:LS:=G0 T K26 (fun _=>none) (nT 16) (cT 16 1) 2 [999999,0,2,7,8,13,58,59,60] 128 C10 BAo D30
theorem C12:D1 Tryz.prog T (nT 16) 2 (cT 16 1) HAo :=
 B7 follows B5 B0Y C1T A7 (A4 _) C7j C11 D17
def D31:Nat→LC:=atN 2 [(4,HAi),(13,HAo)]
theorem A6s:H1 Tryz.prog T 16 D31:=G1 2 (List.forall_mem_cons.2 ⟨C1Z.1,List.forall_mem_cons.2 ⟨C12.1,fun _ h=>by cases h⟩⟩) 2 (by kernel_rfl) ⟨⟨trivial,Z8 (s0:=HAi) (by kernel_rfl) C1Z⟩,Z8 (s0:=HAo) (by kernel_rfl) C12⟩
def D0t:List (Nat×D7):=(11,trS (P3 Tryz.prog T K26 D3Y false FU 11))::C1S
theorem C13:D5 Tryz.prog T D0t:=A7j.cons (L6 (U3 B0Y A6r.nat)) (P2 (U3 B0Y A6r.nat) (H3 follows B5 B0Y C1T A6r.nat A6r.ok).at_)
def C14:List (Nat×D7):=(16,trS (P3 Tryz.prog T K26 D31 false FU 16))::D0t
theorem A7k:D5 Tryz.prog T C14:=C13.cons (L6 (U3 B0Y A6s.nat)) (P2 (U3 B0Y A6s.nat) (H3 follows B5 B0Y C1T A6s.nat A6s.ok).at_)
def K28:KC:=F3 Tryz.prog T C14 false FU 4
theorem D5H:K28.nat:=B2 A7k 4
theorem D5I:X9 Tryz.prog T K28.dir:=B9 follows B5 A7k 4
end Go.Proofs.YteoeonfajlnggaaGreat
namespace Go.Proofs.YteoeonfajlnggaaGreat
open Go.Vm
set_option maxRecDepth 100000
set_option linter.unusedVariables false
set_option linter.constructorNameAsVariable false
def C15:List (Nat×D7):=(79,A62 (C8h T 39))::C14
theorem A7l:D5 Tryz.prog T C15:=A7k.cons (A45 _) (by rw [A46];exact C3M (u8:=5) (by kernel_rfl) (by kernel_rfl) Tryz.func79 (by kernel_rfl) (by kernel_rfl) (by kernel_rfl) (by kernel_rfl))
def K29:KC:=F3 Tryz.prog T C15 false FU 4
theorem D5J:K29.nat:=B2 A7l 4
theorem D5K:X9 Tryz.prog T K29.dir:=B9 follows B5 A7l 4
theorem C7k (x y:V):G7 Tryz.prog T K29 (fun _ _=>none) false FU 45 (List Rs) (P9 T [38,38] [x,y]) (fun _=>none) 0 (fun out=>S9 T true [.d 3] out)=some [.d 3 (.i (J7 (X6 x) (X6 y)))]:=by kernel_rfl
def C16:List (Nat×D7):=(45,J9 T true [38,38] (gF (fun _=>true) (fun xs=>match xs with | [x,y]=>[.d 3 (.i (cmR x y))] | _=>[])))::C15
theorem A7m:D5 Tryz.prog T C16:=by
 refine F4 (sh:=true) (rk:=[.d 3]) (d:=4) (fu:=FU) (Lo:=(fun _ _=>none)) (ds:=[.struct [.arr 32 (.int .u8),.int .u32],.struct [.arr 32 (.int .u8),.int .u32]]) follows B5 A7l (by kernel_rfl) C7 40 (by kernel_rfl) (fun xs hd hg=>?_)
 obtain ⟨a,b,rfl,ha,hb⟩:=A5T hd
 refine (C7k a b).trans ?_
 show _=some [Rs.d 3 (V.i (cmR a b))]
 rw [A0D]
def K30:KC:=F3 Tryz.prog T C16 false FU 4
theorem D5L:K30.nat:=B2 A7m 4
theorem D5M:X9 Tryz.prog T K30.dir:=B9 follows B5 A7m 4
theorem D18 (n:Int):G7 Tryz.prog T K30 (fun _ _=>none) false FU 98 (List Rs) (P9 T [98] [.i n]) (fun _=>none) 0 (fun out=>S9 T true [.d 3] out)=Wd.ln64 n (fun b=>some [.d 3 (.i b)]):=by kernel_rfl
def C17:List (Nat×D7):=(98,J9 T true [98] (gF (fun _=>true) (fun xs=>match xs with | [x]=>[.d 3 (.i (Wd.blen x.int.toNat:Int))] | _=>[])))::C16
theorem A7n:D5 Tryz.prog T C17:=by
 refine F4 (sh:=true) (rk:=[.d 3]) (d:=4) (fu:=FU) (Lo:=(fun _ _=>none)) (ds:=[.int .u64]) follows B5 A7m (by kernel_rfl) C7 40 (by kernel_rfl) (fun xs hd hg=>?_)
 obtain ⟨a,rfl,ha⟩:=A0H hd
 obtain ⟨n,rfl,h1,h2⟩:=ha
 simp only [lo,hi] at h1 h2
 exact (D18 n).trans (Wd.ln64_law (by omega))
def K31:KC:=F3 Tryz.prog T C17 false FU 4
theorem A04:K31.nat:=B2 A7n 4
theorem A05:X9 Tryz.prog T K31.dir:=B9 follows B5 A7n 4
end Go.Proofs.YteoeonfajlnggaaGreat
namespace Go.Proofs.YteoeonfajlnggaaGreat
open Go.Vm
set_option maxRecDepth 100000
set_option linter.unusedVariables false
set_option linter.constructorNameAsVariable false
def B0Z:B6h→Vm.St
 | .m xs a b i j=>⟨[(0,.o 0 1),(1,.i .i64 a),(2,.i .i64 b),(3,.f 45 []),(8,.i .i64 i),(9,.i .i64 j)],(.n (some (.row 38 1 xs false false)) .e .e),[0],1,some []⟩
def C18 (R:Type) (kx:Exit→Vm.St→Option R):C9U→Option R
 | .o xs a b i j=>kx (.exit 2) { B0Z (.m xs a b i j) with nx:=64 }
def B00:Vm.St→Option B6h
 | ⟨[(0,.o 0 1),(1,.i .i64 a),(2,.i .i64 b),(3,.f 45 []),(8,.i .i64 i),(9,.i .i64 j)],(.n (some (.row 38 1 xs false false)) .e .e),[0],1,some []⟩=>some (.m xs a b i j)
 | _=>none
theorem B4J:T0 B00 B0Z:=by
 intro _ _ h
 unfold B00 at h
 split at h<;>first | (cases h;rfl) | cases h
theorem C19:J0 T K31 (fun _=>none) (nT 89) (cT 89 1) 1 [999999,0,1,2,3,8,9] 64 B0Z A5B C18:=by
 intro R of x K kx
 cases x<;>kernel_rfl
def A9s:LS:=G0 T K31 (fun _=>none) (nT 89) (cT 89 1) 1 [999999,0,1,2,3,8,9] 64 B00 A5B C18
theorem A4g:D1 Tryz.prog T (nT 89) 1 (cT 89 1) A9s :=
 B7 follows B5 A04 A05 A7 (A4 _) B0Z B4J C19
def A7o:B6i→Vm.St
 | .m xs r h f=>⟨[(0,.o 0 1),(2,.i .i64 h),(3,.i .i64 f),(4,.f 45 []),(10,.i .i64 r)],(.n (some (.row 38 1 xs false false)) .e .e),[0],1,some []⟩
def C2a (R:Type) (kx:Exit→Vm.St→Option R):B2m→Option R
 | .o xs r h f=>kx (.exit 0) { A7o (.m xs r h f) with nx:=64 }
 | .r xs r h f=>kx (.ret) { A7o (.m xs r h f) with nx:=64 }
def B01:Vm.St→Option B6i
 | ⟨[(0,.o 0 1),(2,.i .i64 h),(3,.i .i64 f),(4,.f 45 []),(10,.i .i64 r)],(.n (some (.row 38 1 xs false false)) .e .e),[0],1,some []⟩=>some (.m xs r h f)
 | _=>none
theorem B4K:T0 B01 A7o:=by
 intro _ _ h
 unfold B01 at h
 split at h<;>first | (cases h;rfl) | cases h
theorem C2b:J0 T K31 (fun _=>none) (nT 106) (cT 106 0) 1 [999999,0,2,3,4,10] 64 A7o A2Q C2a:=by
 intro R of x K kx
 cases x<;>kernel_rfl
def C2c:LS:=G0 T K31 (fun _=>none) (nT 106) (cT 106 0) 1 [999999,0,2,3,4,10] 64 B01 A2Q C2a
theorem B2C:D1 Tryz.prog T (nT 106) 1 (cT 106 0) C2c :=
 B7 follows B5 A04 A05 A7 (A4 _) A7o B4K C2b
def B02:B6j→Vm.St
 | .m xs i j=>⟨[(0,.o 0 1),(3,.f 45 []),(8,.i .i64 i),(9,.i .i64 j)],(.n (some (.row 38 1 xs false false)) .e .e),[0],1,some []⟩
def C2d (R:Type) (kx:Exit→Vm.St→Option R):C9V→Option R
 | .o xs i j=>kx (.exit 0) { B02 (.m xs i j) with nx:=64 }
def B03:Vm.St→Option B6j
 | ⟨[(0,.o 0 1),(3,.f 45 []),(8,.i .i64 i),(9,.i .i64 j)],(.n (some (.row 38 1 xs false false)) .e .e),[0],1,some []⟩=>some (.m xs i j)
 | _=>none
theorem B4L:T0 B03 B02:=by
 intro _ _ h
 unfold B03 at h
 split at h<;>first | (cases h;rfl) | cases h
theorem C2e:J0 T K31 (fun _=>none) (nT 93) (cT 93 0) 1 [999999,0,3,8,9] 64 B02 A5C C2d:=by
 intro R of x K kx
 cases x<;>kernel_rfl
def C2f:LS:=G0 T K31 (fun _=>none) (nT 93) (cT 93 0) 1 [999999,0,3,8,9] 64 B03 A5C C2d
theorem B2D:D1 Tryz.prog T (nT 93) 1 (cT 93 0) C2f :=
 B7 follows B5 A04 A05 A7 (A4 _) B02 B4L C2e
def B04:B6k→Vm.St
 | .m xs a b i s=>⟨[(0,.o 0 1),(1,.i .i64 a),(2,.i .i64 b),(3,.f 45 []),(8,.b false),(9,.i .i64 i),(10,.i .i64 s)],(.n (some (.row 38 1 xs false false)) .e .e),[0],1,some []⟩
def C2g (R:Type) (kx:Exit→Vm.St→Option R):C9W→Option R
 | .o xs a b i s=>kx (.exit 2) { B04 (.m xs a b i s) with nx:=64 }
def B05:Vm.St→Option B6k
 | ⟨[(0,.o 0 1),(1,.i .i64 a),(2,.i .i64 b),(3,.f 45 []),(8,.b false),(9,.i .i64 i),(10,.i .i64 s)],(.n (some (.row 38 1 xs false false)) .e .e),[0],1,some []⟩=>some (.m xs a b i s)
 | _=>none
theorem B4M:T0 B05 B04:=by
 intro _ _ h
 unfold B05 at h
 split at h<;>first | (cases h;rfl) | cases h
theorem C2h:J0 T K31 (fun _=>none) (nT 94) (cT 94 1) 1 [999999,0,1,2,3,8,9,10] 64 B04 A9e C2g:=by
 intro R of x K kx
 cases x<;>kernel_rfl
def A9t:LS:=G0 T K31 (fun _=>none) (nT 94) (cT 94 1) 1 [999999,0,1,2,3,8,9,10] 64 B05 A9e C2g
theorem A4h:D1 Tryz.prog T (nT 94) 1 (cT 94 1) A9t :=
 B7 follows B5 A04 A05 A7 (A4 _) B04 B4M C2h
def B06:B6l→Vm.St
 | .m xs a b i s j=>⟨[(0,.o 0 1),(1,.i .i64 a),(2,.i .i64 b),(3,.f 45 []),(8,.b false),(9,.i .i64 i),(10,.i .i64 s),(11,.i .i64 j)],(.n (some (.row 38 1 xs false false)) .e .e),[0],1,some []⟩
def C2i (R:Type) (kx:Exit→Vm.St→Option R):C9X→Option R
 | .o xs a b i s j=>kx (.exit 4) { B06 (.m xs a b i s j) with nx:=128 }
def B07:Vm.St→Option B6l
 | ⟨[(0,.o 0 1),(1,.i .i64 a),(2,.i .i64 b),(3,.f 45 []),(8,.b false),(9,.i .i64 i),(10,.i .i64 s),(11,.i .i64 j)],(.n (some (.row 38 1 xs false false)) .e .e),[0],1,some []⟩=>some (.m xs a b i s j)
 | _=>none
theorem B4N:T0 B07 B06:=by
 intro _ _ h
 unfold B07 at h
 split at h<;>first | (cases h;rfl) | cases h
theorem C2j:J0 T K31 (fun _=>none) (nT 94) (cT 94 2) 1 [999999,0,1,2,3,8,9,10,11] 128 B06 A5D C2i:=by
 intro R of x K kx
 cases x<;>kernel_rfl
def A9u:LS:=G0 T K31 (fun _=>none) (nT 94) (cT 94 2) 1 [999999,0,1,2,3,8,9,10,11] 128 B07 A5D C2i
theorem A4i:D1 Tryz.prog T (nT 94) 1 (cT 94 2) A9u :=
 B7 follows B5 A04 A05 A7 (A4 _) B06 B4N C2j
def B08:B6m→Vm.St
 | .m xs a b i s j=>⟨[(0,.o 0 1),(1,.i .i64 a),(2,.i .i64 b),(3,.f 45 []),(8,.b false),(9,.i .i64 i),(10,.i .i64 s),(12,.i .i64 j)],(.n (some (.row 38 1 xs false false)) .e .e),[0],1,some []⟩
def C2k (R:Type) (kx:Exit→Vm.St→Option R):C9Y→Option R
 | .o xs a b i s j=>kx (.exit 6) { B08 (.m xs a b i s j) with nx:=256 }
def B09:Vm.St→Option B6m
 | ⟨[(0,.o 0 1),(1,.i .i64 a),(2,.i .i64 b),(3,.f 45 []),(8,.b false),(9,.i .i64 i),(10,.i .i64 s),(12,.i .i64 j)],(.n (some (.row 38 1 xs false false)) .e .e),[0],1,some []⟩=>some (.m xs a b i s j)
 | _=>none
theorem B4O:T0 B09 B08:=by
 intro _ _ h
 unfold B09 at h
 split at h<;>first | (cases h;rfl) | cases h
theorem C2l:J0 T K31 (fun _=>none) (nT 94) (cT 94 3) 1 [999999,0,1,2,3,8,9,10,12] 256 B08 A5E C2k:=by
 intro R of x K kx
 cases x<;>kernel_rfl
def A9v:LS:=G0 T K31 (fun _=>none) (nT 94) (cT 94 3) 1 [999999,0,1,2,3,8,9,10,12] 256 B09 A5E C2k
theorem A4j:D1 Tryz.prog T (nT 94) 1 (cT 94 3) A9v :=
 B7 follows B5 A04 A05 A7 (A4 _) B08 B4O C2l
def B1a:B6n→Vm.St
 | .m xs a i j=>⟨[(0,.o 0 1),(1,.i .i64 a),(4,.f 45 []),(11,.i .i64 i),(12,.i .i64 j)],(.n (some (.row 38 1 xs false false)) .e .e),[0],1,some []⟩
def C2m (R:Type) (kx:Exit→Vm.St→Option R):C9Z→Option R
 | .o xs a i j=>kx (.exit 2) { B1a (.m xs a i j) with nx:=64 }
def B1b:Vm.St→Option B6n
 | ⟨[(0,.o 0 1),(1,.i .i64 a),(4,.f 45 []),(11,.i .i64 i),(12,.i .i64 j)],(.n (some (.row 38 1 xs false false)) .e .e),[0],1,some []⟩=>some (.m xs a i j)
 | _=>none
theorem B4P:T0 B1b B1a:=by
 intro _ _ h
 unfold B1b at h
 split at h<;>first | (cases h;rfl) | cases h
theorem C2n:J0 T K31 (fun _=>none) (nT 95) (cT 95 1) 1 [999999,0,1,4,11,12] 64 B1a A9f C2m:=by
 intro R of x K kx
 cases x<;>kernel_rfl
def A9w:LS:=G0 T K31 (fun _=>none) (nT 95) (cT 95 1) 1 [999999,0,1,4,11,12] 64 B1b A9f C2m
theorem A4k:D1 Tryz.prog T (nT 95) 1 (cT 95 1) A9w :=
 B7 follows B5 A04 A05 A7 (A4 _) B1a B4P C2n
def B1c:B6o→Vm.St
 | .m xs a i j=>⟨[(0,.o 0 1),(1,.i .i64 a),(4,.f 45 []),(11,.i .i64 i),(12,.i .i64 j)],(.n (some (.row 38 1 xs false false)) .e .e),[0],1,some []⟩
def C2o (R:Type) (kx:Exit→Vm.St→Option R):C90→Option R
 | .o xs a i j=>kx (.exit 4) { B1c (.m xs a i j) with nx:=128 }
def B1d:Vm.St→Option B6o
 | ⟨[(0,.o 0 1),(1,.i .i64 a),(4,.f 45 []),(11,.i .i64 i),(12,.i .i64 j)],(.n (some (.row 38 1 xs false false)) .e .e),[0],1,some []⟩=>some (.m xs a i j)
 | _=>none
theorem B4Q:T0 B1d B1c:=by
 intro _ _ h
 unfold B1d at h
 split at h<;>first | (cases h;rfl) | cases h
theorem C2p:J0 T K31 (fun _=>none) (nT 95) (cT 95 2) 1 [999999,0,1,4,11,12] 128 B1c A9g C2o:=by
 intro R of x K kx
 cases x<;>kernel_rfl
def A9x:LS:=G0 T K31 (fun _=>none) (nT 95) (cT 95 2) 1 [999999,0,1,4,11,12] 128 B1d A9g C2o
theorem A4l:D1 Tryz.prog T (nT 95) 1 (cT 95 2) A9x :=
 B7 follows B5 A04 A05 A7 (A4 _) B1c B4Q C2p
def B1e:B6p→Vm.St
 | .m xs a i j=>⟨[(0,.o 0 1),(1,.i .i64 a),(4,.f 45 []),(12,.i .i64 i),(13,.i .i64 j)],(.n (some (.row 38 1 xs false false)) .e .e),[0],1,some []⟩
def C2q (R:Type) (kx:Exit→Vm.St→Option R):C91→Option R
 | .o xs a i j=>kx (.exit 0) { B1e (.m xs a i j) with nx:=64 }
def B1f:Vm.St→Option B6p
 | ⟨[(0,.o 0 1),(1,.i .i64 a),(4,.f 45 []),(12,.i .i64 i),(13,.i .i64 j)],(.n (some (.row 38 1 xs false false)) .e .e),[0],1,some []⟩=>some (.m xs a i j)
 | _=>none
theorem B4R:T0 B1f B1e:=by
 intro _ _ h
 unfold B1f at h
 split at h<;>first | (cases h;rfl) | cases h
theorem C2r:J0 T K31 (fun _=>none) (nT 96) (cT 96 0) 1 [999999,0,1,4,12,13] 64 B1e A9h C2q:=by
 intro R of x K kx
 cases x<;>kernel_rfl
def C2s:LS:=G0 T K31 (fun _=>none) (nT 96) (cT 96 0) 1 [999999,0,1,4,12,13] 64 B1f A9h C2q
theorem B2E:D1 Tryz.prog T (nT 96) 1 (cT 96 0) C2s :=
 B7 follows B5 A04 A05 A7 (A4 _) B1e B4R C2r
def B1g:B6r→Vm.St
 | .m xs a i j=>⟨[(0,.o 0 1),(1,.i .i64 a),(4,.f 45 []),(12,.i .i64 i),(13,.i .i64 j)],(.n (some (.row 38 1 xs false false)) .e .e),[0],1,some []⟩
def C2t (R:Type) (kx:Exit→Vm.St→Option R):C93→Option R
 | .o xs a i j=>kx (.exit 2) { B1g (.m xs a i j) with nx:=128 }
def B1h:Vm.St→Option B6r
 | ⟨[(0,.o 0 1),(1,.i .i64 a),(4,.f 45 []),(12,.i .i64 i),(13,.i .i64 j)],(.n (some (.row 38 1 xs false false)) .e .e),[0],1,some []⟩=>some (.m xs a i j)
 | _=>none
theorem B4S:T0 B1h B1g:=by
 intro _ _ h
 unfold B1h at h
 split at h<;>first | (cases h;rfl) | cases h
theorem C2u:J0 T K31 (fun _=>none) (nT 96) (cT 96 1) 1 [999999,0,1,4,12,13] 128 B1g A9j C2t:=by
 intro R of x K kx
 cases x<;>kernel_rfl
def C2v:LS:=G0 T K31 (fun _=>none) (nT 96) (cT 96 1) 1 [999999,0,1,4,12,13] 128 B1h A9j C2t
theorem B2F:D1 Tryz.prog T (nT 96) 1 (cT 96 1) C2v :=
 B7 follows B5 A04 A05 A7 (A4 _) B1g B4S C2u
def B1i:B6q→Vm.St
 | .m xs a i j=>⟨[(0,.o 0 1),(1,.i .i64 a),(4,.f 45 []),(12,.i .i64 i),(13,.i .i64 j)],(.n (some (.row 38 1 xs false false)) .e .e),[0],1,some []⟩
def C2w (R:Type) (kx:Exit→Vm.St→Option R):C92→Option R
 | .o xs a i j=>kx (.exit 6) { B1i (.m xs a i j) with nx:=256 }
def B1j:Vm.St→Option B6q
 | ⟨[(0,.o 0 1),(1,.i .i64 a),(4,.f 45 []),(12,.i .i64 i),(13,.i .i64 j)],(.n (some (.row 38 1 xs false false)) .e .e),[0],1,some []⟩=>some (.m xs a i j)
 | _=>none
theorem B4T:T0 B1j B1i:=by
 intro _ _ h
 unfold B1j at h
 split at h<;>first | (cases h;rfl) | cases h
theorem C2x:J0 T K31 (fun _=>none) (nT 96) (cT 96 3) 1 [999999,0,1,4,12,13] 256 B1i A9i C2w:=by
 intro R of x K kx
 cases x<;>kernel_rfl
def A9y:LS:=G0 T K31 (fun _=>none) (nT 96) (cT 96 3) 1 [999999,0,1,4,12,13] 256 B1j A9i C2w
theorem A4m:D1 Tryz.prog T (nT 96) 1 (cT 96 3) A9y :=
 B7 follows B5 A04 A05 A7 (A4 _) B1i B4T C2x
def B1k:B6s→Vm.St
 | .m xs a i j=>⟨[(0,.o 0 1),(1,.i .i64 a),(4,.f 45 []),(12,.i .i64 i),(13,.i .i64 j)],(.n (some (.row 38 1 xs false false)) .e .e),[0],1,some []⟩
def C2y (R:Type) (kx:Exit→Vm.St→Option R):C94→Option R
 | .o xs a i j=>kx (.exit 8) { B1k (.m xs a i j) with nx:=512 }
def B1l:Vm.St→Option B6s
 | ⟨[(0,.o 0 1),(1,.i .i64 a),(4,.f 45 []),(12,.i .i64 i),(13,.i .i64 j)],(.n (some (.row 38 1 xs false false)) .e .e),[0],1,some []⟩=>some (.m xs a i j)
 | _=>none
theorem B4U:T0 B1l B1k:=by
 intro _ _ h
 unfold B1l at h
 split at h<;>first | (cases h;rfl) | cases h
theorem C2z:J0 T K31 (fun _=>none) (nT 96) (cT 96 4) 1 [999999,0,1,4,12,13] 512 B1k A9k C2y:=by
 intro R of x K kx
 cases x<;>kernel_rfl
def A9z:LS:=G0 T K31 (fun _=>none) (nT 96) (cT 96 4) 1 [999999,0,1,4,12,13] 512 B1l A9k C2y
theorem A4n:D1 Tryz.prog T (nT 96) 1 (cT 96 4) A9z :=
 B7 follows B5 A04 A05 A7 (A4 _) B1k B4U C2z
end Go.Proofs.YteoeonfajlnggaaGreat
namespace Go.Proofs.YteoeonfajlnggaaGreat
open Go.Vm
set_option maxRecDepth 100000
set_option linter.unusedVariables false
set_option linter.constructorNameAsVariable false
def B1m:B6t→Vm.St
 | .m xs a b i=>⟨[(0,.o 0 1),(1,.i .i64 a),(2,.i .i64 b),(3,.f 45 []),(8,.i .i64 i)],(.n (some (.row 38 1 xs false false)) .e .e),[0],1,some []⟩
def C2A (R:Type) (kx:Exit→Vm.St→Option R):C95→Option R
 | .o xs a b i=>kx (.exit 0) { B1m (.m xs a b i) with nx:=128 }
def B1n:Vm.St→Option B6t
 | ⟨[(0,.o 0 1),(1,.i .i64 a),(2,.i .i64 b),(3,.f 45 []),(8,.i .i64 i)],(.n (some (.row 38 1 xs false false)) .e .e),[0],1,some []⟩=>some (.m xs a b i)
 | _=>none
theorem B4V:T0 B1n B1m:=by
 intro _ _ h
 unfold B1n at h
 split at h<;>first | (cases h;rfl) | cases h
theorem C2B:J0 T K31 (loT [(4,A9s)]) (nT 89) (cT 89 0) 1 [999999,0,1,2,3,8] 128 B1m A5O C2A:=by
 intro R of x K kx
 cases x<;>kernel_rfl
def C2C:LS:=G0 T K31 (loT [(4,A9s)]) (nT 89) (cT 89 0) 1 [999999,0,1,2,3,8] 128 B1n A5O C2A
theorem B2G:D1 Tryz.prog T (nT 89) 1 (cT 89 0) C2C :=
 B7 follows B5 A04 A05 (A2A (List.forall_mem_cons.2 ⟨A4g.1,fun _ h=>by cases h⟩)) (V8 1 (by kernel_rfl) ⟨trivial,Z8 (s0:=A9s) (by kernel_rfl) ((show lp (lp (H2 Tryz.prog 89) 0) 0=lp (H2 Tryz.prog 89) 1 from by kernel_rfl) ▸ A4g)⟩) B1m B4V C2B
def A7p:B2n→Vm.St
 | .m xs a b i s=>⟨[(0,.o 0 1),(1,.i .i64 a),(2,.i .i64 b),(3,.f 45 []),(8,.b false),(9,.i .i64 i),(10,.i .i64 s)],(.n (some (.row 38 1 xs false false)) .e .e),[0],1,some []⟩
def C2D (R:Type) (kx:Exit→Vm.St→Option R):B6w→Option R
 | .o xs a b i s=>kx (.exit 0) { A7p (.m xs a b i s) with nx:=512 }
 | .r xs a b i s=>kx (.ret) { A7p (.m xs a b i s) with nx:=512 }
 | .t xs a b i s=>kx (.ret) ⟨[(0,.o 0 1),(1,.i .i64 a),(2,.i .i64 b),(3,.f 45 []),(8,.b true),(9,.i .i64 i),(10,.i .i64 s)],(.n (some (.row 38 1 xs false false)) .e .e),[0],512,some []⟩
def B1o:Vm.St→Option B2n
 | ⟨[(0,.o 0 1),(1,.i .i64 a),(2,.i .i64 b),(3,.f 45 []),(8,.b false),(9,.i .i64 i),(10,.i .i64 s)],(.n (some (.row 38 1 xs false false)) .e .e),[0],1,some []⟩=>some (.m xs a b i s)
 | _=>none
theorem B4W:T0 B1o A7p:=by
 intro _ _ h
 unfold B1o at h
 split at h<;>first | (cases h;rfl) | cases h
theorem C2E:J0 T K31 (loT [(5,A9t),(14,A9u),(20,A9v)]) (nT 94) (cT 94 0) 1 [999999,0,1,2,3,8,9,10] 512 A7p A1R C2D:=by
 intro R of x K kx
 cases x<;>kernel_rfl
def C2F:LS:=G0 T K31 (loT [(5,A9t),(14,A9u),(20,A9v)]) (nT 94) (cT 94 0) 1 [999999,0,1,2,3,8,9,10] 512 B1o A1R C2D
theorem B2H:D1 Tryz.prog T (nT 94) 1 (cT 94 0) C2F :=
 B7 follows B5 A04 A05 (A2A (List.forall_mem_cons.2 ⟨A4h.1,List.forall_mem_cons.2 ⟨A4i.1,List.forall_mem_cons.2 ⟨A4j.1,fun _ h=>by cases h⟩⟩⟩)) (V8 3 (by kernel_rfl) ⟨⟨⟨trivial,Z8 (s0:=A9t) (by kernel_rfl) ((show lp (lp (H2 Tryz.prog 94) 0) 0=lp (H2 Tryz.prog 94) 1 from by kernel_rfl) ▸ A4h)⟩,Z8 (s0:=A9u) (by kernel_rfl) ((show lp (lp (H2 Tryz.prog 94) 0) 1=lp (H2 Tryz.prog 94) 2 from by kernel_rfl) ▸ A4i)⟩,Z8 (s0:=A9v) (by kernel_rfl) ((show lp (lp (H2 Tryz.prog 94) 0) 2=lp (H2 Tryz.prog 94) 3 from by kernel_rfl) ▸ A4j)⟩) A7p B4W C2E
def B1p:B6u→Vm.St
 | .m xs a i j=>⟨[(0,.o 0 1),(1,.i .i64 a),(4,.f 45 []),(11,.i .i64 i),(12,.i .i64 j)],(.n (some (.row 38 1 xs false false)) .e .e),[0],1,some []⟩
def C2G (R:Type) (kx:Exit→Vm.St→Option R):C96→Option R
 | .o xs a i j=>kx (.exit 0) { B1p (.m xs a i j) with nx:=256 }
def B1q:Vm.St→Option B6u
 | ⟨[(0,.o 0 1),(1,.i .i64 a),(4,.f 45 []),(11,.i .i64 i),(12,.i .i64 j)],(.n (some (.row 38 1 xs false false)) .e .e),[0],1,some []⟩=>some (.m xs a i j)
 | _=>none
theorem B4X:T0 B1q B1p:=by
 intro _ _ h
 unfold B1q at h
 split at h<;>first | (cases h;rfl) | cases h
theorem C2H:J0 T K31 (loT [(3,A9w),(5,A9x)]) (nT 95) (cT 95 0) 1 [999999,0,1,4,11,12] 256 B1p A5P C2G:=by
 intro R of x K kx
 cases x<;>kernel_rfl
def C2I:LS:=G0 T K31 (loT [(3,A9w),(5,A9x)]) (nT 95) (cT 95 0) 1 [999999,0,1,4,11,12] 256 B1q A5P C2G
theorem B2I:D1 Tryz.prog T (nT 95) 1 (cT 95 0) C2I :=
 B7 follows B5 A04 A05 (A2A (List.forall_mem_cons.2 ⟨A4k.1,List.forall_mem_cons.2 ⟨A4l.1,fun _ h=>by cases h⟩⟩)) (V8 2 (by kernel_rfl) ⟨⟨trivial,Z8 (s0:=A9w) (by kernel_rfl) ((show lp (lp (H2 Tryz.prog 95) 0) 0=lp (H2 Tryz.prog 95) 1 from by kernel_rfl) ▸ A4k)⟩,Z8 (s0:=A9x) (by kernel_rfl) ((show lp (lp (H2 Tryz.prog 95) 0) 1=lp (H2 Tryz.prog 95) 2 from by kernel_rfl) ▸ A4l)⟩) B1p B4X C2H
def B1r:B6v→Vm.St
 | .m xs a i j=>⟨[(0,.o 0 1),(1,.i .i64 a),(4,.f 45 []),(12,.i .i64 i),(13,.i .i64 j)],(.n (some (.row 38 1 xs false false)) .e .e),[0],1,some []⟩
def C2J (R:Type) (kx:Exit→Vm.St→Option R):C97→Option R
 | .o xs a i j=>kx (.exit 4) { B1r (.m xs a i j) with nx:=1024 }
def B1s:Vm.St→Option B6v
 | ⟨[(0,.o 0 1),(1,.i .i64 a),(4,.f 45 []),(12,.i .i64 i),(13,.i .i64 j)],(.n (some (.row 38 1 xs false false)) .e .e),[0],1,some []⟩=>some (.m xs a i j)
 | _=>none
theorem B4Y:T0 B1s B1r:=by
 intro _ _ h
 unfold B1s at h
 split at h<;>first | (cases h;rfl) | cases h
theorem C2K:J0 T K31 (loT [(13,A9y),(15,A9z)]) (nT 96) (cT 96 2) 1 [999999,0,1,4,12,13] 1024 B1r A6P C2J:=by
 intro R of x K kx
 cases x<;>kernel_rfl
def C2L:LS:=G0 T K31 (loT [(13,A9y),(15,A9z)]) (nT 96) (cT 96 2) 1 [999999,0,1,4,12,13] 1024 B1s A6P C2J
theorem B2J:D1 Tryz.prog T (nT 96) 1 (cT 96 2) C2L :=
 B7 follows B5 A04 A05 (A2A (List.forall_mem_cons.2 ⟨A4m.1,List.forall_mem_cons.2 ⟨A4n.1,fun _ h=>by cases h⟩⟩)) (V8 2 (by kernel_rfl) ⟨⟨trivial,Z8 (s0:=A9y) (by kernel_rfl) ((show lp (lp (H2 Tryz.prog 96) 2) 0=lp (H2 Tryz.prog 96) 3 from by kernel_rfl) ▸ A4m)⟩,Z8 (s0:=A9z) (by kernel_rfl) ((show lp (lp (H2 Tryz.prog 96) 2) 1=lp (H2 Tryz.prog 96) 4 from by kernel_rfl) ▸ A4n)⟩) B1r B4Y C2K
def C2M:Nat→LC:=B0y 1 [(1001,C2C),(4,A9s)]
theorem A9A:H1 Tryz.prog T 89 C2M:=A0a 1 (List.forall_mem_cons.2 ⟨B2G.1,List.forall_mem_cons.2 ⟨A4g.1,fun _ h=>by cases h⟩⟩) 2 (by kernel_rfl) ⟨⟨trivial,Z8 (s0:=C2C) (by kernel_rfl) B2G⟩,Z8 (s0:=A9s) (by kernel_rfl) A4g⟩
def C2N:Nat→LC:=B0y 1 [(1,C2c)]
theorem A9B:H1 Tryz.prog T 106 C2N:=A0a 1 (List.forall_mem_cons.2 ⟨B2C.1,fun _ h=>by cases h⟩) 1 (by kernel_rfl) ⟨trivial,Z8 (s0:=C2c) (by kernel_rfl) B2C⟩
def C2O:Nat→LC:=B0y 1 [(2,C2f)]
theorem A9C:H1 Tryz.prog T 93 C2O:=A0a 1 (List.forall_mem_cons.2 ⟨B2D.1,fun _ h=>by cases h⟩) 1 (by kernel_rfl) ⟨trivial,Z8 (s0:=C2f) (by kernel_rfl) B2D⟩
def C2P:Nat→LC:=B0y 1 [(3003,C2F),(5,A9t),(14,A9u),(20,A9v)]
theorem A9D:H1 Tryz.prog T 94 C2P:=A0a 1 (List.forall_mem_cons.2 ⟨B2H.1,List.forall_mem_cons.2 ⟨A4h.1,List.forall_mem_cons.2 ⟨A4i.1,List.forall_mem_cons.2 ⟨A4j.1,fun _ h=>by cases h⟩⟩⟩⟩) 4 (by kernel_rfl) ⟨⟨⟨⟨trivial,Z8 (s0:=C2F) (by kernel_rfl) B2H⟩,Z8 (s0:=A9t) (by kernel_rfl) A4h⟩,Z8 (s0:=A9u) (by kernel_rfl) A4i⟩,Z8 (s0:=A9v) (by kernel_rfl) A4j⟩
def C2Q:Nat→LC:=B0y 1 [(2003,C2I),(3,A9w),(5,A9x)]
theorem A9E:H1 Tryz.prog T 95 C2Q:=A0a 1 (List.forall_mem_cons.2 ⟨B2I.1,List.forall_mem_cons.2 ⟨A4k.1,List.forall_mem_cons.2 ⟨A4l.1,fun _ h=>by cases h⟩⟩⟩) 3 (by kernel_rfl) ⟨⟨⟨trivial,Z8 (s0:=C2I) (by kernel_rfl) B2I⟩,Z8 (s0:=A9w) (by kernel_rfl) A4k⟩,Z8 (s0:=A9x) (by kernel_rfl) A4l⟩
def C2R:Nat→LC:=B0y 1 [(3,C2s),(5,C2v),(2013,C2L),(13,A9y),(15,A9z)]
theorem A9F:H1 Tryz.prog T 96 C2R:=A0a 1 (List.forall_mem_cons.2 ⟨B2E.1,List.forall_mem_cons.2 ⟨B2F.1,List.forall_mem_cons.2 ⟨B2J.1,List.forall_mem_cons.2 ⟨A4m.1,List.forall_mem_cons.2 ⟨A4n.1,fun _ h=>by cases h⟩⟩⟩⟩⟩) 5 (by kernel_rfl) ⟨⟨⟨⟨⟨trivial,Z8 (s0:=C2s) (by kernel_rfl) B2E⟩,Z8 (s0:=C2v) (by kernel_rfl) B2F⟩,Z8 (s0:=C2L) (by kernel_rfl) B2J⟩,Z8 (s0:=A9y) (by kernel_rfl) A4m⟩,Z8 (s0:=A9z) (by kernel_rfl) A4n⟩
end Go.Proofs.YteoeonfajlnggaaGreat
namespace Go.Proofs.YteoeonfajlnggaaGreat
open Go.Vm
set_option maxRecDepth 100000
set_option linter.unusedVariables false
set_option linter.constructorNameAsVariable false
theorem C7l (xs:List V) (a b:Int):(P3 Tryz.prog T K31 C2M false FU 89).dir [.o 0 1,.i .i64 a,.i .i64 b,.f 45 []] (ofL [.row 38 1 xs false false]) 1=C99 H9 xs a b (fun ys=>some (⟨.t [],[(0,.row 38 1 ys false false)],[0],128⟩:H9)):=by kernel_rfl
theorem C7m:R0 Tryz.prog T 89 (N3 (A37 38 45) A03 (M1 38 1024 (fun _=>.t []) A5F)).dir :=
 A3f (H3 follows B5 A04 A05 A9A.nat A9A.ok) (fun xs a b hg=>⟨128,[0],by first | decide | (cases A0G _<;>decide),(C7l xs a b).trans (B7Z (R:=H9) hg (fun ys=>some (⟨.t [],[(0,.row 38 1 ys false false)],[0],128⟩:H9))),by simp⟩)
theorem C7n (xs:List V) (a b c:Int):(P3 Tryz.prog T K31 C2N false FU 106).dir [.o 0 1,.i .i64 a,.i .i64 b,.i .i64 c,.f 45 []] (ofL [.row 38 1 xs false false]) 1=D0a H9 xs a b c (fun ys=>some (⟨.t [],[(0,.row 38 1 ys false false)],[0],64⟩:H9)):=by kernel_rfl
theorem C7o:R0 Tryz.prog T 106 (N3 (A2m 38 45) B0z (M1 38 1024 (fun _=>.t []) A3F)).dir :=
 A1t (H3 follows B5 A04 A05 A9B.nat A9B.ok) (fun xs a b c hg=>⟨64,[0],by first | decide | (cases A0G _<;>decide),(C7n xs a b c).trans (B70 (R:=H9) hg (fun ys=>some (⟨.t [],[(0,.row 38 1 ys false false)],[0],64⟩:H9))),by simp⟩)
theorem C7p (xs:List V) (a b:Int):(P3 Tryz.prog T K31 C2O false FU 93).dir [.o 0 1,.i .i64 a,.i .i64 b,.f 45 []] (ofL [.row 38 1 xs false false]) 1=D0b H9 xs a b (fun ys=>some (⟨.t [],[(0,.row 38 1 ys false false)],[0],64⟩:H9)):=by kernel_rfl
theorem C7q:R0 Tryz.prog T 93 (N3 (A37 38 45) A2l (M1 38 1024 (fun _=>.t []) A3G)).dir :=
 A3f (H3 follows B5 A04 A05 A9C.nat A9C.ok) (fun xs a b hg=>⟨64,[0],by first | decide | (cases A0G _<;>decide),(C7p xs a b).trans (B71 (R:=H9) hg (fun ys=>some (⟨.t [],[(0,.row 38 1 ys false false)],[0],64⟩:H9))),by simp⟩)
theorem C7r (xs:List V) (a b:Int):(P3 Tryz.prog T K31 C2P false FU 94).dir [.o 0 1,.i .i64 a,.i .i64 b,.f 45 []] (ofL [.row 38 1 xs false false]) 1=D0c H9 xs a b (fun b ys=>some (⟨.b b,[(0,.row 38 1 ys false false)],[0],512⟩:H9)):=by kernel_rfl
theorem C7s:R0 Tryz.prog T 94 (N3 (A37 38 45) A2l (M1 38 1024 (fun s=>.b (A5I s)) A36)).dir :=
 A3f (H3 follows B5 A04 A05 A9D.nat A9D.ok) (fun xs a b hg=>⟨512,[0],by first | decide | (cases A0G _<;>decide),(C7r xs a b).trans (B72 (R:=H9) hg (fun b ys=>some (⟨.b b,[(0,.row 38 1 ys false false)],[0],512⟩:H9))),by simp⟩)
theorem C7t (xs:List V) (a b c:Int):(P3 Tryz.prog T K31 C2Q false FU 95).dir [.o 0 1,.i .i64 a,.i .i64 b,.i .i64 c,.f 45 []] (ofL [.row 38 1 xs false false]) 1=D0d H9 xs a b c (fun i ys=>some (⟨.i .i64 i,[(0,.row 38 1 ys false false)],[0],256⟩:H9)):=by kernel_rfl
theorem C7u:R0 Tryz.prog T 95 (N3 (A2m 38 45) A4W (M1 38 1024 (fun s=>.i .i64 (A5K s)) A5J)).dir :=
 A1t (H3 follows B5 A04 A05 A9E.nat A9E.ok) (fun xs a b c hg=>⟨256,[0],by first | decide | (cases A0G _<;>decide),(C7t xs a b c).trans (B73 (R:=H9) hg (fun i ys=>some (⟨.i .i64 i,[(0,.row 38 1 ys false false)],[0],256⟩:H9))),by simp⟩)
theorem C7v (xs:List V) (a b c:Int):(P3 Tryz.prog T K31 C2R false FU 96).dir [.o 0 1,.i .i64 a,.i .i64 b,.i .i64 c,.f 45 []] (ofL [.row 38 1 xs false false]) 1=C0f H9 xs a b c (fun j b ys=>some (⟨.t [.i .i64 j,.b b],[(0,.row 38 1 ys false false)],[0],bif b then 128 else 1024⟩:H9)):=by kernel_rfl
theorem C7w:R0 Tryz.prog T 96 (N3 (A2m 38 45) A4W (M1 38 1024 (fun s=>.t [.i .i64 (A5M s),.b (A0G s)]) A5L)).dir :=
 A1t (H3 follows B5 A04 A05 A9F.nat A9F.ok) (fun xs a b c hg=>⟨bif A0G ⟨xs,a,b,c⟩ then 128 else 1024,[0],by first | decide | (cases A0G _<;>decide),(C7v xs a b c).trans (C0g (R:=H9) hg (fun j b ys=>some (⟨.t [.i .i64 j,.b b],[(0,.row 38 1 ys false false)],[0],bif b then 128 else 1024⟩:H9))),by simp⟩)
def C2S:List (Nat×D7):=(89,trS (N3 (A37 38 45) A03 (M1 38 1024 (fun _=>.t []) A5F)))::(106,trS (N3 (A2m 38 45) B0z (M1 38 1024 (fun _=>.t []) A3F)))::(93,trS (N3 (A37 38 45) A2l (M1 38 1024 (fun _=>.t []) A3G)))::(94,trS (N3 (A37 38 45) A2l (M1 38 1024 (fun s=>.b (A5I s)) A36)))::(95,trS (N3 (A2m 38 45) A4W (M1 38 1024 (fun s=>.i .i64 (A5K s)) A5J)))::(96,trS (N3 (A2m 38 45) A4W (M1 38 1024 (fun s=>.t [.i .i64 (A5M s),.b (A0G s)]) A5L)))::C17
theorem A7q:D5 Tryz.prog T C2S:=((((((A7n).cons (L6 C9) (P2 C9 C7w)).cons (L6 C9) (P2 C9 C7u)).cons (L6 C9) (P2 C9 C7s)).cons (L6 C9) (P2 C9 C7q)).cons (L6 C9) (P2 C9 C7o)).cons (L6 C9) (P2 C9 C7m)
def K32:KC:=F3 Tryz.prog T C2S false FU 4
theorem B8p:K32.nat:=B2 A7q 4
theorem B8q:X9 Tryz.prog T K32.dir:=B9 follows B5 A7q 4
end Go.Proofs.YteoeonfajlnggaaGreat
namespace Go.Proofs.YteoeonfajlnggaaGreat
open Go.Vm
set_option maxRecDepth 100000
set_option linter.unusedVariables false
set_option linter.constructorNameAsVariable false
def B1t:B6z→Vm.St
 | .m xs f h i=>⟨[(0,.o 0 1),(3,.f 45 []),(8,.i .i64 f),(9,.i .i64 0),(10,.i .i64 h),(11,.i .i64 i)],(.n (some (.row 38 1 xs false false)) .e .e),[0],1,some []⟩
def C2T (R:Type) (kx:Exit→Vm.St→Option R):D0e→Option R
 | .o xs f h i=>kx (.exit 0) { B1t (.m xs f h i) with nx:=8192 }
def B1u:Vm.St→Option B6z
 | ⟨[(0,.o 0 1),(3,.f 45 []),(8,.i .i64 f),(9,.i .i64 0),(10,.i .i64 h),(11,.i .i64 i)],(.n (some (.row 38 1 xs false false)) .e .e),[0],1,some []⟩=>some (.m xs f h i)
 | _=>none
theorem B4Z:T0 B1u B1t:=by
 intro _ _ h
 unfold B1u at h
 split at h<;>first | (cases h;rfl) | cases h
theorem C2U:J0 T K32 (fun _=>none) (nT 90) (cT 90 0) 1 [999999,0,3,8,9,10,11] 8192 B1t A9l C2T:=by
 intro R of x K kx
 cases x<;>kernel_rfl
def C2V:LS:=G0 T K32 (fun _=>none) (nT 90) (cT 90 0) 1 [999999,0,3,8,9,10,11] 8192 B1u A9l C2T
theorem B2K:D1 Tryz.prog T (nT 90) 1 (cT 90 0) C2V :=
 B7 follows B5 B8p B8q A7 (A4 _) B1t B4Z C2U
def B1v:B6A→Vm.St
 | .m xs f h i=>⟨[(0,.o 0 1),(3,.f 45 []),(8,.i .i64 f),(9,.i .i64 0),(10,.i .i64 h),(12,.i .i64 i)],(.n (some (.row 38 1 xs false false)) .e .e),[0],1,some []⟩
def C2W (R:Type) (kx:Exit→Vm.St→Option R):D0f→Option R
 | .o xs f h i=>kx (.exit 2) { B1v (.m xs f h i) with nx:=65536 }
def B1w:Vm.St→Option B6A
 | ⟨[(0,.o 0 1),(3,.f 45 []),(8,.i .i64 f),(9,.i .i64 0),(10,.i .i64 h),(12,.i .i64 i)],(.n (some (.row 38 1 xs false false)) .e .e),[0],1,some []⟩=>some (.m xs f h i)
 | _=>none
theorem B40:T0 B1w B1v:=by
 intro _ _ h
 unfold B1w at h
 split at h<;>first | (cases h;rfl) | cases h
theorem C2X:J0 T K32 (fun _=>none) (nT 90) (cT 90 1) 1 [999999,0,3,8,9,10,12] 65536 B1v A9m C2W:=by
 intro R of x K kx
 cases x<;>kernel_rfl
def C2Y:LS:=G0 T K32 (fun _=>none) (nT 90) (cT 90 1) 1 [999999,0,3,8,9,10,12] 65536 B1w A9m C2W
theorem B2L:D1 Tryz.prog T (nT 90) 1 (cT 90 1) C2Y :=
 B7 follows B5 B8p B8q A7 (A4 _) B1v B40 C2X
def B1x:B6B→Vm.St
 | .m xs a b l m i r=>⟨[(0,.o 0 1),(1,.i .i64 a),(2,.i .i64 b),(3,.f 45 []),(8,.i .i64 l),(9,.p 1 158 []),(10,.i .u64 m),(11,.i .i64 i)],(.n (some (.row 38 1 xs false false)) (.n (some (.box 158 (.i .u64 r) false)) .e .e) .e),[0],2,some []⟩
def C2Z (R:Type) (kx:Exit→Vm.St→Option R):D0g→Option R
 | .o xs a b l m i r=>kx (.exit 0) { B1x (.m xs a b l m i r) with nx:=64 }
def B1y:Vm.St→Option B6B
 | ⟨[(0,.o 0 1),(1,.i .i64 a),(2,.i .i64 b),(3,.f 45 []),(8,.i .i64 l),(9,.p 1 158 []),(10,.i .u64 m),(11,.i .i64 i)],(.n (some (.row 38 1 xs false false)) (.n (some (.box 158 (.i .u64 r) false)) .e .e) .e),[0],2,some []⟩=>some (.m xs a b l m i r)
 | _=>none
theorem B41:T0 B1y B1x:=by
 intro _ _ h
 unfold B1y at h
 split at h<;>first | (cases h;rfl) | cases h
theorem C20:J0 T K32 (fun _=>none) (nT 91) (cT 91 0) 1 [999999,0,1,2,3,8,9,10,11] 64 B1x A3H C2Z:=by
 intro R of x K kx
 cases x<;>kernel_rfl
def C21:LS:=G0 T K32 (fun _=>none) (nT 91) (cT 91 0) 1 [999999,0,1,2,3,8,9,10,11] 64 B1y A3H C2Z
theorem B2M:D1 Tryz.prog T (nT 91) 1 (cT 91 0) C21 :=
 B7 follows B5 B8p B8q A7 (A4 _) B1x B41 C20
def C22:Nat→LC:=atN 1 [(4,C2V),(8,C2Y)]
theorem A9G:H1 Tryz.prog T 90 C22:=G1 1 (List.forall_mem_cons.2 ⟨B2K.1,List.forall_mem_cons.2 ⟨B2L.1,fun _ h=>by cases h⟩⟩) 2 (by kernel_rfl) ⟨⟨trivial,Z8 (s0:=C2V) (by kernel_rfl) B2K⟩,Z8 (s0:=C2Y) (by kernel_rfl) B2L⟩
def C23:Nat→LC:=atN 1 [(5,C21)]
theorem A9H:H1 Tryz.prog T 91 C23:=G1 1 (List.forall_mem_cons.2 ⟨B2M.1,fun _ h=>by cases h⟩) 1 (by kernel_rfl) ⟨trivial,Z8 (s0:=C21) (by kernel_rfl) B2M⟩
end Go.Proofs.YteoeonfajlnggaaGreat
namespace Go.Proofs.YteoeonfajlnggaaGreat
open Go.Vm
set_option maxRecDepth 100000
set_option linter.unusedVariables false
set_option linter.constructorNameAsVariable false
theorem C7x (xs:List V) (a b:Int):(P3 Tryz.prog T K32 C22 false FU 90).dir [.o 0 1,.i .i64 a,.i .i64 b,.f 45 []] (ofL [.row 38 1 xs false false]) 1=C0i H9 xs a b (fun ys=>some (⟨.t [],[(0,.row 38 1 ys false false)],[0],65536⟩:H9)):=by kernel_rfl
theorem C7y:R0 Tryz.prog T 90 (N3 (A37 38 45) A03 (M1 38 65536 (fun _=>.t []) A5G)).dir :=
 A3f (H3 follows B5 B8p B8q A9G.nat A9G.ok) (fun xs a b hg=>⟨65536,[0],by first | decide | (cases A0G _<;>decide),(C7x xs a b).trans (B74 (R:=H9) hg (fun ys=>some (⟨.t [],[(0,.row 38 1 ys false false)],[0],65536⟩:H9))),by simp⟩)
theorem C7z (xs:List V) (a b:Int):(P3 Tryz.prog T K32 C23 false FU 91).dir [.o 0 1,.i .i64 a,.i .i64 b,.f 45 []] (ofL [.row 38 1 xs false false]) 1=C3f H9 xs a b (fun n ys=>some (⟨.t [],[(0,.row 38 1 ys false false)],[0],n⟩:H9)):=by kernel_rfl
theorem C7A:R0 Tryz.prog T 91 (N3 (A37 38 45) A03 (M1 38 1024 (fun _=>.t []) A5H)).dir :=
 A3f (H3 follows B5 B8p B8q A9H.nat A9H.ok) (fun xs a b hg=>⟨bif F2 8 (B3 (b - a)) then 64 else 1,[0],by cases F2 8 (B3 (b - a))<;>decide,(C7z xs a b).trans (B8y (R:=H9) hg (fun n ys=>some (⟨.t [],[(0,.row 38 1 ys false false)],[0],n⟩:H9))),by simp⟩)
theorem D19 (xs:List V) (a b c n:Int):(P3 Tryz.prog T K32 (fun _ _=>none) false FU 110).dir [.o 0 1,.i .i64 a,.i .i64 b,.i .i64 c,.p 1 3 [],.f 45 []] (ofL [.row 38 1 xs false false,.box 3 (.i .i64 n) false]) 2=D2b H9 xs a b c n (fun i n=>some (⟨.i .i64 i,[(0,.row 38 1 xs false false),(1,.box 3 (.i .i64 n) false)],[1,0],2⟩:H9)):=by kernel_rfl
theorem D2a:R0 Tryz.prog T 110 (N3 (C7F 38 3 45) B1B (C3a 38 3 2)).dir :=
 C7G (by kernel_rfl) (by kernel_rfl) (H3 follows B5 B8p B8q (C7 (P:=Tryz.prog) (T:=T) (f:=110)).nat C7.ok) (fun xs a b c n hg =>
  ⟨2,[1,0],by decide,(D19 xs a b c n).trans (C3b (R:=H9) hg (fun i n=>some (⟨.i .i64 i,[(0,.row 38 1 xs false false),(1,.box 3 (.i .i64 n) false)],[1,0],2⟩:H9))),by simp⟩)
def C24:List (Nat×D7):=(90,trS (N3 (A37 38 45) A03 (M1 38 65536 (fun _=>.t []) A5G)))::(91,trS (N3 (A37 38 45) A03 (M1 38 1024 (fun _=>.t []) A5H)))::(110,trS (N3 (C7F 38 3 45) B1B (C3a 38 3 2)))::C2S
theorem A7r:D5 Tryz.prog T C24:=(((A7q).cons (L6 C9) (P2 C9 D2a)).cons (L6 C9) (P2 C9 C7A)).cons (L6 C9) (P2 C9 C7y)
def K33:KC:=F3 Tryz.prog T C24 false FU 4
theorem D4Z:K33.nat:=B2 A7r 4
theorem D40:X9 Tryz.prog T K33.dir:=B9 follows B5 A7r 4
theorem C7B (xs:List V) (a b:Int):(P3 Tryz.prog T K33 (fun _ _=>none) false FU 92).dir [.o 0 1,.i .i64 a,.i .i64 b,.f 45 []] (ofL [.row 38 1 xs false false]) 1=C3e H9 xs a b (fun i h=>some (⟨.t [.i .i64 i,.i .i64 h],[(0,.row 38 1 xs false false)],[0],2⟩:H9)):=by kernel_rfl
theorem C7C:R0 Tryz.prog T 92 (N3 (A37 38 45) A2l (M1 38 1024 (fun s=>.t [.i .i64 (A1Q s),.i .i64 (A5N s)]) (fun s=>s.xs))).dir :=
 A3f (H3 follows B5 D4Z D40 (C7 (P:=Tryz.prog) (T:=T) (f:=92)).nat C7.ok) (fun xs a b hg=>⟨2,[0],by first | decide | (cases A0G _<;>decide),(C7B xs a b).trans (B8x (R:=H9) hg (fun i h=>some (⟨.t [.i .i64 i,.i .i64 h],[(0,.row 38 1 xs false false)],[0],2⟩:H9))),by simp⟩)
def C25:List (Nat×D7):=(92,trS (N3 (A37 38 45) A2l (M1 38 1024 (fun s=>.t [.i .i64 (A1Q s),.i .i64 (A5N s)]) (fun s=>s.xs))))::C24
theorem A7s:D5 Tryz.prog T C25:=(A7r).cons (L6 C9) (P2 C9 C7C)
def K34:KC:=F3 Tryz.prog T C25 false FU 4
theorem D5N:K34.nat:=B2 A7s 4
theorem D5O:X9 Tryz.prog T K34.dir:=B9 follows B5 A7s 4
end Go.Proofs.YteoeonfajlnggaaGreat
end
/- What functions compute, and the law run. -/
import Derived.Test.YtgnfgafiegimoaaTy
import Derived.Test.YtgnfgafiegimoaaVm9
import Derived.Test.YtgnfgafiegimoaaVm10
import Derived.Test.YtgnfgafiegimoaaVm11
set_option linter.constructorNameAsVariable false
set_option linter.unusedVariables false
set_option linter.unusedSimpArgs false
noncomputable section
namespace Go.Proofs.Ytgnfgafiegimoaa
open Go.Vm
set_option maxRecDepth 100000
set_option linter.unusedVariables false
def C2Q:List (Nat×G2):=[]
theorem A6M:J0 Try.prog T C2Q:=B4k
def K1:KC:=J7 Try.prog T C2Q false FU 4
theorem hK1:K1.nat:=E1 A6M 4
theorem hS1:KOK Try.prog T K1.dir:=G7 follows E6 A6M 4
def B1t:B4m→Vm.St
 | .m x z i w=>⟨[(0,.v 43 x),(2,.p 0 117 []),(3,.p 1 117 []),(8,.i .i64 i)],(.n (some (.box 117 (.v 117 z) false)) (.n (some (.box 117 (.v 117 w) false)) .e .e) .e),[],2,some []⟩
def C1W (R:Type) (kx:Exit→Vm.St→Option R):C3N→Option R
 | .o x z i w=>kx (.exit 0) ⟨[(0,.v 43 x),(2,.p 0 117 []),(3,.p 1 117 []),(8,.i .i64 i)],(.n (some (.box 117 (.v 117 z) false)) (.n (some (.box 117 (.v 117 w) false)) .e .e) .e),[],16,some []⟩
def A9B:Vm.St→Option B4m
 | ⟨[(0,.v 43 x),(2,.p 0 117 []),(3,.p 1 117 []),(8,.i .i64 i)],(.n (some (.box 117 (.v 117 z) false)) (.n (some (.box 117 (.v 117 w) false)) .e .e) .e),[],2,some []⟩=>some (.m x z i w)
 | _=>none
theorem B22 (τ:Vm.St) (x:B4m) (h:A9B τ=some x):τ=B1t x:=by
 unfold A9B at h
 split at h<;>first | (cases h;rfl) | cases h
theorem B8q (R:Type) (of:Nat→Option Ob) (x:B4m) (K:Vm.St→Option R) (kx:Exit→Vm.St→Option R):E2 T K1 (fun _=>none) false FU (C3 Try.prog 82) of R (lp (A5 Try.prog 82) 0) (B1t x) (H0 0 [0,2,3,8] 16 K kx)=B6v R x (fun x'=>K (B1t x')) (C1W R kx):=by
 cases x with
 | m _ _ _ _=>kernel_rfl
def C2R:LS:=H5 T K1 (fun _=>none) (C3 Try.prog 82) (lp (A5 Try.prog 82) 0) 0 [0,2,3,8] 16 A9B B6v C1W
theorem B1u:E4 Try.prog T (C3 Try.prog 82) 0 (lp (A5 Try.prog 82) 0) C2R :=
 C5 follows E6 hK1 hS1 B3 (A9 _) B1t B22 B8q
def B1v:B4n→Vm.St
 | .m z i w=>⟨[(2,.p 0 117 []),(3,.p 1 117 []),(5,.i .i64 i)],(.n (some (.box 117 (.v 117 z) false)) (.n (some (.box 117 (.v 117 w) false)) .e .e) .e),[],2,some []⟩
def C1X (R:Type) (kx:Exit→Vm.St→Option R):C3O→Option R
 | .o z i w=>kx (.exit 2) ⟨[(2,.p 0 117 []),(3,.p 1 117 []),(5,.i .i64 i)],(.n (some (.box 117 (.v 117 z) false)) (.n (some (.box 117 (.v 117 w) false)) .e .e) .e),[],16,some []⟩
def A9C:Vm.St→Option B4n
 | ⟨[(2,.p 0 117 []),(3,.p 1 117 []),(5,.i .i64 i)],(.n (some (.box 117 (.v 117 z) false)) (.n (some (.box 117 (.v 117 w) false)) .e .e) .e),[],2,some []⟩=>some (.m z i w)
 | _=>none
theorem B23 (τ:Vm.St) (x:B4n) (h:A9C τ=some x):τ=B1v x:=by
 unfold A9C at h
 split at h<;>first | (cases h;rfl) | cases h
theorem B8r (R:Type) (of:Nat→Option Ob) (x:B4n) (K:Vm.St→Option R) (kx:Exit→Vm.St→Option R):E2 T K1 (fun _=>none) false FU (C3 Try.prog 82) of R (lp (A5 Try.prog 82) 1) (B1v x) (H0 0 [2,3,5] 16 K kx)=B4o R x (fun x'=>K (B1v x')) (C1X R kx):=by
 cases x with
 | m _ _ _=>kernel_rfl
def C2S:LS:=H5 T K1 (fun _=>none) (C3 Try.prog 82) (lp (A5 Try.prog 82) 1) 0 [2,3,5] 16 A9C B4o C1X
theorem B1w:E4 Try.prog T (C3 Try.prog 82) 0 (lp (A5 Try.prog 82) 1) C2S :=
 C5 follows E6 hK1 hS1 B3 (A9 _) B1v B23 B8r
def C2T:Nat→LC:=atN 0 [(3,C2R),(8,C2S)]
theorem B8s:J9 Try.prog T 82 C2T:=N8 0 (List.forall_mem_cons.2 ⟨B1u.1,List.forall_mem_cons.2 ⟨B1w.1,fun _ h=>by cases h⟩⟩) 2 (by kernel_rfl) ⟨⟨trivial,loI (s0:=C2R) (by kernel_rfl) B1u⟩,loI (s0:=C2S) (by kernel_rfl) B1w⟩
def Gsp:FC:=fun R xs k=>match xs with
 | [x]=>D2 (B6v R) (A3 FU) (.m x z64 0 z64) (fun | .o _ z _ w=>D2 (B4o R) (A3 FU) (.m z 16 w) (fun | .o _ _ w=>k [.d 117 w]))
 | _=>none
theorem C2U (R:Type) (x:V) (k:List Rs→Option R):M0 Try.prog T K1 C2T false FU 82 R (A0e T [43] [x]) (fun _=>none) 0 (fun out=>ob (A1E T false [.d 117] out) k)=Gsp R [x] k:=by kernel_rfl
def C2V:List (Nat×G2):=(82,V2 T false [43] (Fsp 117))::C2Q
theorem A6N:J0 Try.prog T C2V:=by
 refine A2G (sh:=false) (rk:=[.d 117]) (d:=4) (fu:=FU) (Lo:=C2T) (G:=Gsp) follows E6 A6M (C0b 117) (by kernel_rfl) B8s (fun R xs k htv=>?_) (fun xs rs htv hrs=>?_)
 ·match xs,htv.len with
  | [x],_=>exact C2U R x k
 ·match xs,htv,htv.len with
  | [x],htv,_ =>
   obtain ⟨e,cs,hx⟩:=htv.head
   obtain ⟨bs,h1,h2⟩:=A4Q (T:=T) (el:=5) (kd:=.u8) (by kernel_rfl) (by kernel_rfl) rfl hx
   simp only [Fsp] at hrs
   cases hl:Nat.ble 64 x.els.length with
   | false=>rw [hl] at hrs;cases hrs
   | true =>
    rw [hl] at hrs
    have hl:=C6Q hl
    rw [h1,C6O] at hl
    exact (B0K h1 (B6y h2) hl HID (fun w=>some [Rs.d 117 w])).trans hrs
def K2:KC:=J7 Try.prog T C2V false FU 4
theorem hK2:K2.nat:=E1 A6N 4
theorem hS2:KOK Try.prog T K2.dir:=G7 follows E6 A6N 4
def B1x:B4p→Vm.St
 | .m s z w k x i=>⟨[(2,.p 0 106 []),(4,.p 1 106 []),(5,.p 3 117 []),(6,.p 4 117 []),(7,.p 5 106 []),(18,.i .i64 i)],(.n (some (.box 106 (.v 106 s) false)) (.n (some (.box 106 (.v 106 z) false)) (.n (some (.box 117 (.v 117 w) false)) .e .e) (.n (some (.box 106 (.v 106 x) false)) .e .e)) (.n none (.n (some (.box 117 (.v 117 k) false)) .e .e) .e)),[],6,some []⟩
def C1Y (R:Type) (kx:Exit→Vm.St→Option R):C3P→Option R
 | .o s z w k x i=>kx (.exit 0) ⟨[(2,.p 0 106 []),(4,.p 1 106 []),(5,.p 3 117 []),(6,.p 4 117 []),(7,.p 5 106 []),(18,.i .i64 i)],(.n (some (.box 106 (.v 106 s) false)) (.n (some (.box 106 (.v 106 z) false)) (.n (some (.box 117 (.v 117 w) false)) .e .e) (.n (some (.box 106 (.v 106 x) false)) .e .e)) (.n none (.n (some (.box 117 (.v 117 k) false)) .e .e) .e)),[],16,some []⟩
def A9D:Vm.St→Option B4p
 | ⟨[(2,.p 0 106 []),(4,.p 1 106 []),(5,.p 3 117 []),(6,.p 4 117 []),(7,.p 5 106 []),(18,.i .i64 i)],(.n (some (.box 106 (.v 106 s) false)) (.n (some (.box 106 (.v 106 z) false)) (.n (some (.box 117 (.v 117 w) false)) .e .e) (.n (some (.box 106 (.v 106 x) false)) .e .e)) (.n none (.n (some (.box 117 (.v 117 k) false)) .e .e) .e)),[],6,some []⟩=>some (.m s z w k x i)
 | _=>none
theorem B24 (τ:Vm.St) (x:B4p) (h:A9D τ=some x):τ=B1x x:=by
 unfold A9D at h
 split at h<;>first | (cases h;rfl) | cases h
theorem B8t (R:Type) (of:Nat→Option Ob) (x:B4p) (K:Vm.St→Option R) (kx:Exit→Vm.St→Option R):E2 T K2 (fun _=>none) false FU (C3 Try.prog 75) of R (lp (A5 Try.prog 75) 0) (B1x x) (H0 0 [2,4,5,6,7,18] 16 K kx)=B6w R x (fun x'=>K (B1x x')) (C1Y R kx):=by
 cases x with
 | m _ _ _ _ _ _=>kernel_rfl
def C2W:LS:=H5 T K2 (fun _=>none) (C3 Try.prog 75) (lp (A5 Try.prog 75) 0) 0 [2,4,5,6,7,18] 16 A9D B6w C1Y
theorem B1y:E4 Try.prog T (C3 Try.prog 75) 0 (lp (A5 Try.prog 75) 0) C2W :=
 C5 follows E6 hK2 hS2 B3 (A9 _) B1x B24 B8t
def B1z:B4q→Vm.St
 | .m s z x i=>⟨[(2,.p 0 106 []),(4,.p 1 106 []),(7,.p 5 106 []),(98,.i .i64 i)],(.n (some (.box 106 (.v 106 s) false)) (.n (some (.box 106 (.v 106 z) false)) .e (.n (some (.box 106 (.v 106 x) false)) .e .e)) .e),[],6,some []⟩
def C1Z (R:Type) (kx:Exit→Vm.St→Option R):C3Q→Option R
 | .o s z x i=>kx (.exit 2) ⟨[(2,.p 0 106 []),(4,.p 1 106 []),(7,.p 5 106 []),(98,.i .i64 i)],(.n (some (.box 106 (.v 106 s) false)) (.n (some (.box 106 (.v 106 z) false)) .e (.n (some (.box 106 (.v 106 x) false)) .e .e)) .e),[],16,some []⟩
def A9E:Vm.St→Option B4q
 | ⟨[(2,.p 0 106 []),(4,.p 1 106 []),(7,.p 5 106 []),(98,.i .i64 i)],(.n (some (.box 106 (.v 106 s) false)) (.n (some (.box 106 (.v 106 z) false)) .e (.n (some (.box 106 (.v 106 x) false)) .e .e)) .e),[],6,some []⟩=>some (.m s z x i)
 | _=>none
theorem B25 (τ:Vm.St) (x:B4q) (h:A9E τ=some x):τ=B1z x:=by
 unfold A9E at h
 split at h<;>first | (cases h;rfl) | cases h
theorem B8u (R:Type) (of:Nat→Option Ob) (x:B4q) (K:Vm.St→Option R) (kx:Exit→Vm.St→Option R):E2 T K2 (fun _=>none) false FU (C3 Try.prog 75) of R (lp (A5 Try.prog 75) 1) (B1z x) (H0 0 [2,4,7,98] 16 K kx)=B0I R x (fun x'=>K (B1z x')) (C1Z R kx):=by
 cases x with
 | m _ _ _ _=>kernel_rfl
def C2X:LS:=H5 T K2 (fun _=>none) (C3 Try.prog 75) (lp (A5 Try.prog 75) 1) 0 [2,4,7,98] 16 A9E B0I C1Z
theorem B1A:E4 Try.prog T (C3 Try.prog 75) 0 (lp (A5 Try.prog 75) 1) C2X :=
 C5 follows E6 hK2 hS2 B3 (A9 _) B1z B25 B8u
def C2Y:Nat→LC:=atN 0 [(3,C2W),(11,C2X)]
theorem B8v:J9 Try.prog T 75 C2Y:=N8 0 (List.forall_mem_cons.2 ⟨B1y.1,List.forall_mem_cons.2 ⟨B1A.1,fun _ h=>by cases h⟩⟩) 2 (by kernel_rfl) ⟨⟨trivial,loI (s0:=C2W) (by kernel_rfl) B1y⟩,loI (s0:=C2X) (by kernel_rfl) B1A⟩
def Gmx:FC:=fun R xs k=>match xs with
 | [s,b]=>bif Nat.ble 64 b.els.length then D2 (B6w R) (A3 FU) (.m s z8 (spW b) A1G s 0) (fun | .o s z _ _ x _=>D2 (B0I R) (A3 FU) (.m s z x 0) (fun | .o s _ _ _=>k [.d 106 s])) else none
 | _=>none
theorem C2Z (R:Type) (s b:V) (k:List Rs→Option R):M0 Try.prog T K2 C2Y false FU 75 R (A0e T [106,43] [s,b]) (fun _=>none) 0 (fun out=>ob (A1E T false [.d 106] out) k)=Gmx R [s,b] k:=by kernel_rfl
def C20:List (Nat×G2):=(75,V2 T false [106,43] (Fmx 106))::C2V
theorem A31:J0 Try.prog T C20:=by
 refine A2G (sh:=false) (rk:=[.d 106]) (d:=4) (fu:=FU) (Lo:=C2Y) (G:=Gmx) follows E6 A6N (C0c 106) (by kernel_rfl) B8v (fun R xs k htv=>?_) (fun xs rs htv hrs=>?_)
 ·match xs,htv.len with
  | [s,b],_=>exact C2Z R s b k
 ·match xs,htv,htv.len with
  | [s,b],htv,_ =>
   obtain ⟨e,cs,hs⟩:=htv.head
   obtain ⟨e2,cs2,hx⟩:=htv.tail.head
   obtain ⟨bs,h1,h2⟩:=A4Q (T:=T) (el:=5) (kd:=.u8) (by kernel_rfl) (by kernel_rfl) rfl hx
   obtain ⟨ns,rfl,n1,n2⟩:=C3S (T:=T) (n:=8) (el:=22) (kd:=.u32) (by kernel_rfl) (by kernel_rfl) rfl hs
   obtain ⟨s8,hs8,hok⟩:=C3W n1 n2
   rw [hs8] at hrs ⊢
   simp only [Fmx] at hrs
   cases hl:Nat.ble 64 b.els.length with
   | false=>rw [hl] at hrs;cases hrs
   | true =>
    rw [hl] at hrs
    simp only [Gmx,hl,cond_true]
    have hl:=C6Q hl
    rw [h1,C6O] at hl
    exact (C0d hok h1 (B6y h2) hl HID (fun w=>some [Rs.d 106 w])).trans hrs
def K3:KC:=J7 Try.prog T C20 false FU 4
theorem hK3:K3.nat:=E1 A31 4
theorem hS3:KOK Try.prog T K3.dir:=G7 follows E6 A31 4
end Go.Proofs.Ytgnfgafiegimoaa
namespace Go.Proofs.Ytgnfgafiegimoaa
open Go.Vm
set_option maxRecDepth 100000
set_option linter.unusedVariables false
def B1B:B4C→Vm.St
 | .m b xs=>⟨[(0,.v 43 b),(3,.o 1 1)],(.n none (.n (some (.row 5 1 xs false false)) .e .e) .e),[],2,some []⟩
def C10 (R:Type) (kx:Exit→Vm.St→Option R):C4b→Option R
 | .o b xs=>kx (.exit 0) ⟨[(0,.v 43 b),(3,.o 1 1)],(.n none (.n (some (.row 5 1 xs false false)) .e .e) .e),[],8,some []⟩
def A9F:Vm.St→Option B4C
 | ⟨[(0,.v 43 b),(3,.o 1 1)],(.n none (.n (some (.row 5 1 xs false false)) .e .e) .e),[],2,some []⟩=>some (.m b xs)
 | _=>none
theorem B26 (τ:Vm.St) (x:B4C) (h:A9F τ=some x):τ=B1B x:=by
 unfold A9F at h
 split at h<;>first | (cases h;rfl) | cases h
theorem B8w (R:Type) (of:Nat→Option Ob) (x:B4C) (K:Vm.St→Option R) (kx:Exit→Vm.St→Option R):E2 T K3 (fun _=>none) false FU (C3 Try.prog 60) of R (lp (A5 Try.prog 60) 0) (B1B x) (H0 0 [0,3] 8 K kx)=C0B R x (fun x'=>K (B1B x')) (C10 R kx):=by
 cases x with
 | m _ _=>kernel_rfl
def C21:LS:=H5 T K3 (fun _=>none) (C3 Try.prog 60) (lp (A5 Try.prog 60) 0) 0 [0,3] 8 A9F C0B C10
theorem B1C:E4 Try.prog T (C3 Try.prog 60) 0 (lp (A5 Try.prog 60) 0) C21 :=
 C5 follows E6 hK3 hS3 B3 (A9 _) B1B B26 B8w
def C22:Nat→LC:=atN 0 [(2,C21)]
theorem B8x:J9 Try.prog T 60 C22:=N8 0 (List.forall_mem_cons.2 ⟨B1C.1,fun _ h=>by cases h⟩) 2 (by kernel_rfl) ⟨⟨trivial,loI (s0:=C21) (by kernel_rfl) B1C⟩,loN (by kernel_rfl)⟩
theorem C23 (R:Type) (b:V) (k:List Rs→Option R):M0 Try.prog T K3 C22 false FU 60 R (A0e T [43] [b]) (fun _=>none) 0 (fun out=>ob (A1E T false [.r 5] out) k)=Gpd 5 R [b] k:=by kernel_rfl
def C24:List (Nat×G2):=(60,V2 T false [43] (Fpd 5))::C20
theorem A6O:J0 Try.prog T C24:=by
 refine A2G (sh:=false) (rk:=[.r 5]) (d:=4) (fu:=FU) (Lo:=C22) (G:=Gpd 5) follows E6 A31 (C0E 5) (by kernel_rfl) B8x (fun R xs k htv=>?_) (fun xs rs htv hrs=>?_)
 ·match xs,htv.len with
  | [b],_=>exact C23 R b k
 ·match xs,htv.len with
  | [b],_=>exact C4e 5 hrs
def K4:KC:=J7 Try.prog T C24 false FU 4
theorem hK4:K4.nat:=E1 A6O 4
theorem hS4:KOK Try.prog T K4.dir:=G7 follows E6 A6O 4
def B1D:B4D→Vm.St
 | .m z v xs kk at_ ws i=>⟨[(2,.p 0 24 []),(3,.p 1 91 []),(4,.o 2 1),(5,.p 4 92 []),(6,.i .i64 at_),(7,.o 5 1),(8,.i .i64 i)],(.n (some (.box 24 (.v 24 z) false)) (.n (some (.box 91 (.v 91 v) false)) .e (.n (some (.row 32 1 ws false false)) .e .e)) (.n (some (.row 5 1 xs false false)) (.n (some (.box 92 (.v 92 kk) false)) .e .e) .e)),[],6,some []⟩
def C11 (R:Type) (kx:Exit→Vm.St→Option R):B6O→Option R
 | .o z v xs kk at_ ws i=>kx (.exit 2) ⟨[(2,.p 0 24 []),(3,.p 1 91 []),(4,.o 2 1),(5,.p 4 92 []),(6,.i .i64 at_),(7,.o 5 1),(8,.i .i64 i)],(.n (some (.box 24 (.v 24 z) false)) (.n (some (.box 91 (.v 91 v) false)) .e (.n (some (.row 32 1 ws false false)) .e .e)) (.n (some (.row 5 1 xs false false)) (.n (some (.box 92 (.v 92 kk) false)) .e .e) .e)),[],16,some []⟩
def A9G:Vm.St→Option B4D
 | ⟨[(2,.p 0 24 []),(3,.p 1 91 []),(4,.o 2 1),(5,.p 4 92 []),(6,.i .i64 at_),(7,.o 5 1),(8,.i .i64 i)],(.n (some (.box 24 (.v 24 z) false)) (.n (some (.box 91 (.v 91 v) false)) .e (.n (some (.row 32 1 ws false false)) .e .e)) (.n (some (.row 5 1 xs false false)) (.n (some (.box 92 (.v 92 kk) false)) .e .e) .e)),[],6,some []⟩=>some (.m z v xs kk at_ ws i)
 | _=>none
theorem B27 (τ:Vm.St) (x:B4D) (h:A9G τ=some x):τ=B1D x:=by
 unfold A9G at h
 split at h<;>first | (cases h;rfl) | cases h
theorem B8y (R:Type) (of:Nat→Option Ob) (x:B4D) (K:Vm.St→Option R) (kx:Exit→Vm.St→Option R):E2 T K4 (fun _=>none) false FU (C3 Try.prog 48) of R (lp (A5 Try.prog 48) 1) (B1D x) (H0 0 [2,3,4,5,6,7,8] 16 K kx)=B0U R x (fun x'=>K (B1D x')) (C11 R kx):=by
 cases x with
 | m _ _ _ _ _ _ _=>kernel_rfl
def B8z:LS:=H5 T K4 (fun _=>none) (C3 Try.prog 48) (lp (A5 Try.prog 48) 1) 0 [2,3,4,5,6,7,8] 16 A9G B0U C11
theorem B1E:E4 Try.prog T (C3 Try.prog 48) 0 (lp (A5 Try.prog 48) 1) B8z :=
 C5 follows E6 hK4 hS4 B3 (A9 _) B1D B27 B8y
def B1F:B4E→Vm.St
 | .m z v xs kk at_ ws x i=>⟨[(2,.p 0 24 []),(3,.p 1 91 []),(4,.o 2 1),(5,.p 4 92 []),(6,.i .i64 at_),(7,.o 5 1),(13,.p 16 91 []),(14,.i .i64 i)],(.n (some (.box 24 (.v 24 z) false)) (.n (some (.box 91 (.v 91 v) false)) .e (.n (some (.row 32 1 ws false false)) .e .e)) (.n (some (.row 5 1 xs false false)) (.n (some (.box 92 (.v 92 kk) false)) (.n none (.n (some (.box 91 (.v 91 x) false)) .e .e) .e) .e) .e)),[],17,some []⟩
def C12 (R:Type) (kx:Exit→Vm.St→Option R):C0C→Option R
 | .o z v xs kk at_ ws x i=>kx (.exit 6) ⟨[(2,.p 0 24 []),(3,.p 1 91 []),(4,.o 2 1),(5,.p 4 92 []),(6,.i .i64 at_),(7,.o 5 1),(13,.p 16 91 []),(14,.i .i64 i)],(.n (some (.box 24 (.v 24 z) false)) (.n (some (.box 91 (.v 91 v) false)) .e (.n (some (.row 32 1 ws false false)) .e .e)) (.n (some (.row 5 1 xs false false)) (.n (some (.box 92 (.v 92 kk) false)) (.n none (.n (some (.box 91 (.v 91 x) false)) .e .e) .e) .e) .e)),[],32,some []⟩
def A9H:Vm.St→Option B4E
 | ⟨[(2,.p 0 24 []),(3,.p 1 91 []),(4,.o 2 1),(5,.p 4 92 []),(6,.i .i64 at_),(7,.o 5 1),(13,.p 16 91 []),(14,.i .i64 i)],(.n (some (.box 24 (.v 24 z) false)) (.n (some (.box 91 (.v 91 v) false)) .e (.n (some (.row 32 1 ws false false)) .e .e)) (.n (some (.row 5 1 xs false false)) (.n (some (.box 92 (.v 92 kk) false)) (.n none (.n (some (.box 91 (.v 91 x) false)) .e .e) .e) .e) .e)),[],17,some []⟩=>some (.m z v xs kk at_ ws x i)
 | _=>none
theorem B28 (τ:Vm.St) (x:B4E) (h:A9H τ=some x):τ=B1F x:=by
 unfold A9H at h
 split at h<;>first | (cases h;rfl) | cases h
theorem B8A (R:Type) (of:Nat→Option Ob) (x:B4E) (K:Vm.St→Option R) (kx:Exit→Vm.St→Option R):E2 T K4 (fun _=>none) false FU (C3 Try.prog 48) of R (lp (A5 Try.prog 48) 3) (B1F x) (H0 0 [2,3,4,5,6,7,13,14] 32 K kx)=B6P R x (fun x'=>K (B1F x')) (C12 R kx):=by
 cases x with
 | m _ _ _ _ _ _ _ _=>kernel_rfl
def B8B:LS:=H5 T K4 (fun _=>none) (C3 Try.prog 48) (lp (A5 Try.prog 48) 3) 0 [2,3,4,5,6,7,13,14] 32 A9H B6P C12
theorem B1G:E4 Try.prog T (C3 Try.prog 48) 0 (lp (A5 Try.prog 48) 3) B8B :=
 C5 follows E6 hK4 hS4 B3 (A9 _) B1F B28 B8A
def B1H:B4F→Vm.St
 | .m z v xs kk at_=>⟨[(2,.p 0 24 []),(3,.p 1 91 []),(4,.o 2 1),(5,.p 4 92 []),(6,.i .i64 at_)],(.n (some (.box 24 (.v 24 z) false)) (.n (some (.box 91 (.v 91 v) false)) .e .e) (.n (some (.row 5 1 xs false false)) (.n (some (.box 92 (.v 92 kk) false)) .e .e) .e)),[],5,some []⟩
def C13 (R:Type) (kx:Exit→Vm.St→Option R):C4c→Option R
 | .o z v xs kk at_=>kx (.exit 0) ⟨[(2,.p 0 24 []),(3,.p 1 91 []),(4,.o 2 1),(5,.p 4 92 []),(6,.i .i64 at_)],(.n (some (.box 24 (.v 24 z) false)) (.n (some (.box 91 (.v 91 v) false)) .e .e) (.n (some (.row 5 1 xs false false)) (.n (some (.box 92 (.v 92 kk) false)) .e .e) .e)),[],64,some []⟩
def A9I:Vm.St→Option B4F
 | ⟨[(2,.p 0 24 []),(3,.p 1 91 []),(4,.o 2 1),(5,.p 4 92 []),(6,.i .i64 at_)],(.n (some (.box 24 (.v 24 z) false)) (.n (some (.box 91 (.v 91 v) false)) .e .e) (.n (some (.row 5 1 xs false false)) (.n (some (.box 92 (.v 92 kk) false)) .e .e) .e)),[],5,some []⟩=>some (.m z v xs kk at_)
 | _=>none
theorem B29 (τ:Vm.St) (x:B4F) (h:A9I τ=some x):τ=B1H x:=by
 unfold A9I at h
 split at h<;>first | (cases h;rfl) | cases h
theorem B8C (R:Type) (of:Nat→Option Ob) (x:B4F) (K:Vm.St→Option R) (kx:Exit→Vm.St→Option R):E2 T K4 (loT [(9,B8z),(23,B8B)]) false FU (C3 Try.prog 48) of R (lp (A5 Try.prog 48) 0) (B1H x) (H0 0 [2,3,4,5,6] 64 K kx)=C0D R x (fun x'=>K (B1H x')) (C13 R kx):=by
 cases x with
 | m _ _ _ _ _=>kernel_rfl
def C25:LS:=H5 T K4 (loT [(9,B8z),(23,B8B)]) (C3 Try.prog 48) (lp (A5 Try.prog 48) 0) 0 [2,3,4,5,6] 64 A9I C0D C13
theorem B1I:E4 Try.prog T (C3 Try.prog 48) 0 (lp (A5 Try.prog 48) 0) C25 :=
 C5 follows E6 hK4 hS4 (A08 (List.forall_mem_cons.2 ⟨B1E.1,List.forall_mem_cons.2 ⟨B1G.1,fun _ h=>by cases h⟩⟩)) (R9 5 (by kernel_rfl) ⟨⟨⟨⟨⟨trivial,loI (s0:=B8z) (by kernel_rfl) ((show lp (lp (A5 Try.prog 48) 0) 0=lp (A5 Try.prog 48) 1 from by kernel_rfl) ▸ B1E)⟩,loN (by kernel_rfl)⟩,loI (s0:=B8B) (by kernel_rfl) ((show lp (lp (A5 Try.prog 48) 0) 2=lp (A5 Try.prog 48) 3 from by kernel_rfl) ▸ B1G)⟩,loN (by kernel_rfl)⟩,loN (by kernel_rfl)⟩) B1H B29 B8C
def C26:Nat→LC:=atN 0 [(5,C25)]
theorem B8D:J9 Try.prog T 48 C26:=N8 0 (List.forall_mem_cons.2 ⟨B1I.1,fun _ h=>by cases h⟩) 8 (by kernel_rfl) ⟨⟨⟨⟨⟨⟨⟨⟨trivial,loI (s0:=C25) (by kernel_rfl) B1I⟩,loN (by kernel_rfl)⟩,loN (by kernel_rfl)⟩,loN (by kernel_rfl)⟩,loN (by kernel_rfl)⟩,loN (by kernel_rfl)⟩,loN (by kernel_rfl)⟩,loN (by kernel_rfl)⟩
theorem C27 (R:Type) (b:V) (k:List Rs→Option R):M0 Try.prog T K4 C26 false FU 48 R (A0e T [43] [b]) (fun _=>none) 0 (fun out=>ob (A1E T false [.d 24] out) k)=Gsm 24 R [b] k:=by kernel_rfl
def C28:List (Nat×G2):=(48,V2 T false [43] (Fsm 24))::C24
theorem A6P:J0 Try.prog T C28:=by
 refine A2G (sh:=false) (rk:=[.d 24]) (d:=4) (fu:=FU) (Lo:=C26) (G:=Gsm 24) follows E6 A6O (C0J 24) (by kernel_rfl) B8D (fun R xs k htv=>?_) (fun xs rs htv hrs=>?_)
 ·match xs,htv.len with
  | [b],_=>exact C27 R b k
 ·match xs,htv,htv.len with
  | [b],htv,_ =>
   obtain ⟨e,cs,hx⟩:=htv.head
   obtain ⟨bs,h1,h2⟩:=A4Q (T:=T) (el:=5) (kd:=.u8) (by kernel_rfl) (by kernel_rfl) rfl hx
   exact C4j 24 h1 (B6y h2) hrs
def K5:KC:=J7 Try.prog T C28 false FU 4
theorem hK5:K5.nat:=E1 A6P 4
theorem hS5:KOK Try.prog T K5.dir:=G7 follows E6 A6P 4
end Go.Proofs.Ytgnfgafiegimoaa
namespace Go.Proofs.Ytgnfgafiegimoaa
open Go.Vm
set_option maxRecDepth 100000
set_option linter.unusedVariables false
def B5D:List (Nat×Sym):=[(75,(V2 T false [106,43] (C0N (Fmx 106))).dir),(42,A7A),(43,A5j)]
theorem B5E:C0P Try.prog T B5D:=⟨J0.see (J0.at A31 (by kernel_rfl)),B07 Try.func42 (by kernel_rfl) (by kernel_rfl) (by kernel_rfl) (by kernel_rfl),A9e Try.func43 (by kernel_rfl) (by kernel_rfl) (by kernel_rfl) (by kernel_rfl),trivial⟩
theorem B3a:ob (C0Q Try.prog T B5D 100000 60 5 (A0e T [] []) (fun _=>none) 0) (fun out=>A1E T true [.d 4] out)=some [.d 4 (.b true)]:=by kernel_rfl
def A9J:G2:=V2 T true [] (gF (fun _=>true) (fun _=>[.d 4 (.b true)]))
theorem A9K:A9J.nat:=A6e (B0V _ _)
theorem C4T:H6 Try.prog T 5 A9J.dir :=
 B2t (s:=A9v (C0Q Try.prog T B5D 100000 60 5)) (B5v _) (by rw [B5w];exact C0R follows E6 B5E) (rk:=[.d 4]) (B0V _ _) rfl (fun xs rs htv hrs=>by
  have hl:=htv.len
  cases xs with
  | cons _ _=>cases hl
  | nil =>
   obtain ⟨_,rfl⟩:=C2D hrs
   exact B3a)
end Go.Proofs.Ytgnfgafiegimoaa
namespace Go.Proofs.Ytgnfgafiegimoaa
open Go.Vm
set_option maxRecDepth 100000
set_option linter.unusedVariables false
set_option linter.constructorNameAsVariable false
theorem C29 (a b:Int):M0 Try.prog T K5 (fun _ _=>none) false FU 70 (List Rs) (A0e T [22,22] [.i a,.i b]) (fun _=>none) 0 (fun out=>A1E T true [.d 4] out)=bif !(ieq a a) then (bif !(ieq b b) then (bif G0 a b then some [.d 4 (.b true)] else some [.d 4 (.b false)]) else some [.d 4 (.b true)]) else (bif G0 a b then some [.d 4 (.b true)] else some [.d 4 (.b false)]):=by kernel_rfl
def C3a:List (Nat×G2):=(70,V2 T true [22,22] (gF (fun _=>true) (fun xs=>match xs with | [x,y]=>[.d 4 (.b (G0 x.int y.int))] | _=>[])))::C28
theorem A6Q:J0 Try.prog T C3a:=by
 refine A10 (sh:=true) (rk:=[.d 4]) (d:=4) (fu:=FU) (Lo:=(fun _ _=>none)) (ds:=[.int .u32,.int .u32]) follows E6 A6P (by kernel_rfl) R8 40 (by kernel_rfl) (fun xs hd hg=>?_)
 obtain ⟨a,b,rfl,ha,hb⟩:=C5J hd
 obtain ⟨x,rfl,_⟩:=ha
 obtain ⟨y,rfl,_⟩:=hb
 refine (C29 x y).trans ?_
 rw [Z3.2 (rfl:x=x)]
 show (bif G0 x y then _ else _)=some [Rs.d _ (V.b (G0 x y))]
 cases G0 x y<;>rfl
def K6:KC:=J7 Try.prog T C3a false FU 4
theorem hK6:K6.nat:=E1 A6Q 4
theorem hS6:KOK Try.prog T K6.dir:=G7 follows E6 A6Q 4
theorem C3b (n:Int):M0 Try.prog T K6 (fun _ _=>none) false FU 41 (List Rs) (A0e T [32] [.i n]) (fun _=>none) 0 (fun out=>A1E T true [.d 3] out)=Wd.ln64 n (fun b=>some [.d 3 (.i b)]):=by kernel_rfl
def C3c:List (Nat×G2):=(41,V2 T true [32] (gF (fun _=>true) (fun xs=>match xs with | [x]=>[.d 3 (.i (Wd.blen x.int.toNat:Int))] | _=>[])))::C3a
theorem A6R:J0 Try.prog T C3c:=by
 refine A10 (sh:=true) (rk:=[.d 3]) (d:=4) (fu:=FU) (Lo:=(fun _ _=>none)) (ds:=[.int .u64]) follows E6 A6Q (by kernel_rfl) R8 40 (by kernel_rfl) (fun xs hd hg=>?_)
 obtain ⟨a,rfl,ha⟩:=B2F hd
 obtain ⟨n,rfl,h1,h2⟩:=ha
 simp only [lo,hi] at h1 h2
 exact (C3b n).trans (Wd.ln64_law (by omega))
def K7:KC:=J7 Try.prog T C3c false FU 4
theorem hK7:K7.nat:=E1 A6R 4
theorem hS7:KOK Try.prog T K7.dir:=G7 follows E6 A6R 4
end Go.Proofs.Ytgnfgafiegimoaa
namespace Go.Proofs.Ytgnfgafiegimoaa
open Go.Vm
set_option maxRecDepth 100000
set_option linter.unusedVariables false
set_option linter.constructorNameAsVariable false
def B1J:B3M→Vm.St
 | .m xs a b i j=>⟨[(0,.o 0 1),(1,.i .i64 a),(2,.i .i64 b),(6,.i .i64 i),(7,.i .i64 j)],(.n (some (.row 22 1 xs false false)) .e .e),[0],1,some []⟩
def C14 (R:Type) (kx:Exit→Vm.St→Option R):C42→Option R
 | .o xs a b i j=>kx (.exit 2) ⟨[(0,.o 0 1),(1,.i .i64 a),(2,.i .i64 b),(6,.i .i64 i),(7,.i .i64 j)],(.n (some (.row 22 1 xs false false)) .e .e),[0],64,some []⟩
def A9L:Vm.St→Option B3M
 | ⟨[(0,.o 0 1),(1,.i .i64 a),(2,.i .i64 b),(6,.i .i64 i),(7,.i .i64 j)],(.n (some (.row 22 1 xs false false)) .e .e),[0],1,some []⟩=>some (.m xs a b i j)
 | _=>none
theorem B3b (τ:Vm.St) (x:B3M) (h:A9L τ=some x):τ=B1J x:=by
 unfold A9L at h
 split at h<;>first | (cases h;rfl) | cases h
theorem B8E (R:Type) (of:Nat→Option Ob) (x:B3M) (K:Vm.St→Option R) (kx:Exit→Vm.St→Option R):E2 T K7 (fun _=>none) false FU (C3 Try.prog 64) of R (lp (A5 Try.prog 64) 1) (B1J x) (H0 1 [999999,0,1,2,6,7] 64 K kx)=A79 R x (fun x'=>K (B1J x')) (C14 R kx):=by
 cases x with
 | m _ _ _ _ _=>kernel_rfl
def B3c:LS:=H5 T K7 (fun _=>none) (C3 Try.prog 64) (lp (A5 Try.prog 64) 1) 1 [999999,0,1,2,6,7] 64 A9L A79 C14
theorem A32:E4 Try.prog T (C3 Try.prog 64) 1 (lp (A5 Try.prog 64) 1) B3c :=
 C5 follows E6 hK7 hS7 B3 (A9 _) B1J B3b B8E
def B1K:B3N→Vm.St
 | .m xs r h f=>⟨[(0,.o 0 1),(2,.i .i64 h),(3,.i .i64 f),(8,.i .i64 r)],(.n (some (.row 22 1 xs false false)) .e .e),[0],1,some []⟩
def C15 (R:Type) (kx:Exit→Vm.St→Option R):B50→Option R
 | .o xs r h f=>kx (.exit 0) ⟨[(0,.o 0 1),(2,.i .i64 h),(3,.i .i64 f),(8,.i .i64 r)],(.n (some (.row 22 1 xs false false)) .e .e),[0],64,some []⟩
 | .r xs r h f=>kx (.ret) ⟨[(0,.o 0 1),(2,.i .i64 h),(3,.i .i64 f),(8,.i .i64 r)],(.n (some (.row 22 1 xs false false)) .e .e),[0],64,some []⟩
def A9M:Vm.St→Option B3N
 | ⟨[(0,.o 0 1),(2,.i .i64 h),(3,.i .i64 f),(8,.i .i64 r)],(.n (some (.row 22 1 xs false false)) .e .e),[0],1,some []⟩=>some (.m xs r h f)
 | _=>none
theorem B3d (τ:Vm.St) (x:B3N) (h:A9M τ=some x):τ=B1K x:=by
 unfold A9M at h
 split at h<;>first | (cases h;rfl) | cases h
theorem B8F (R:Type) (of:Nat→Option Ob) (x:B3N) (K:Vm.St→Option R) (kx:Exit→Vm.St→Option R):E2 T K7 (fun _=>none) false FU (C3 Try.prog 76) of R (lp (A5 Try.prog 76) 0) (B1K x) (H0 1 [999999,0,2,3,8] 64 K kx)=A4A R x (fun x'=>K (B1K x')) (C15 R kx):=by
 cases x with
 | m _ _ _ _=>kernel_rfl
def C3d:LS:=H5 T K7 (fun _=>none) (C3 Try.prog 76) (lp (A5 Try.prog 76) 0) 1 [999999,0,2,3,8] 64 A9M A4A C15
theorem B1L:E4 Try.prog T (C3 Try.prog 76) 1 (lp (A5 Try.prog 76) 0) C3d :=
 C5 follows E6 hK7 hS7 B3 (A9 _) B1K B3d B8F
def B1M:B3O→Vm.St
 | .m xs i j=>⟨[(0,.o 0 1),(6,.i .i64 i),(7,.i .i64 j)],(.n (some (.row 22 1 xs false false)) .e .e),[0],1,some []⟩
def C16 (R:Type) (kx:Exit→Vm.St→Option R):C43→Option R
 | .o xs i j=>kx (.exit 0) ⟨[(0,.o 0 1),(6,.i .i64 i),(7,.i .i64 j)],(.n (some (.row 22 1 xs false false)) .e .e),[0],64,some []⟩
def A9N:Vm.St→Option B3O
 | ⟨[(0,.o 0 1),(6,.i .i64 i),(7,.i .i64 j)],(.n (some (.row 22 1 xs false false)) .e .e),[0],1,some []⟩=>some (.m xs i j)
 | _=>none
theorem B3e (τ:Vm.St) (x:B3O) (h:A9N τ=some x):τ=B1M x:=by
 unfold A9N at h
 split at h<;>first | (cases h;rfl) | cases h
theorem B8G (R:Type) (of:Nat→Option Ob) (x:B3O) (K:Vm.St→Option R) (kx:Exit→Vm.St→Option R):E2 T K7 (fun _=>none) false FU (C3 Try.prog 68) of R (lp (A5 Try.prog 68) 0) (B1M x) (H0 1 [999999,0,6,7] 64 K kx)=A8a R x (fun x'=>K (B1M x')) (C16 R kx):=by
 cases x with
 | m _ _ _=>kernel_rfl
def C3e:LS:=H5 T K7 (fun _=>none) (C3 Try.prog 68) (lp (A5 Try.prog 68) 0) 1 [999999,0,6,7] 64 A9N A8a C16
theorem B1N:E4 Try.prog T (C3 Try.prog 68) 1 (lp (A5 Try.prog 68) 0) C3e :=
 C5 follows E6 hK7 hS7 B3 (A9 _) B1M B3e B8G
def B1O:B3P→Vm.St
 | .m xs a b i s=>⟨[(0,.o 0 1),(1,.i .i64 a),(2,.i .i64 b),(6,.b false),(7,.i .i64 i),(8,.i .i64 s)],(.n (some (.row 22 1 xs false false)) .e .e),[0],1,some []⟩
def C17 (R:Type) (kx:Exit→Vm.St→Option R):C44→Option R
 | .o xs a b i s=>kx (.exit 2) ⟨[(0,.o 0 1),(1,.i .i64 a),(2,.i .i64 b),(6,.b false),(7,.i .i64 i),(8,.i .i64 s)],(.n (some (.row 22 1 xs false false)) .e .e),[0],64,some []⟩
def A9O:Vm.St→Option B3P
 | ⟨[(0,.o 0 1),(1,.i .i64 a),(2,.i .i64 b),(6,.b false),(7,.i .i64 i),(8,.i .i64 s)],(.n (some (.row 22 1 xs false false)) .e .e),[0],1,some []⟩=>some (.m xs a b i s)
 | _=>none
theorem B3f (τ:Vm.St) (x:B3P) (h:A9O τ=some x):τ=B1O x:=by
 unfold A9O at h
 split at h<;>first | (cases h;rfl) | cases h
theorem B8H (R:Type) (of:Nat→Option Ob) (x:B3P) (K:Vm.St→Option R) (kx:Exit→Vm.St→Option R):E2 T K7 (fun _=>none) false FU (C3 Try.prog 69) of R (lp (A5 Try.prog 69) 1) (B1O x) (H0 1 [999999,0,1,2,6,7,8] 64 K kx)=B3Q R x (fun x'=>K (B1O x')) (C17 R kx):=by
 cases x with
 | m _ _ _ _ _=>kernel_rfl
def B3g:LS:=H5 T K7 (fun _=>none) (C3 Try.prog 69) (lp (A5 Try.prog 69) 1) 1 [999999,0,1,2,6,7,8] 64 A9O B3Q C17
theorem A33:E4 Try.prog T (C3 Try.prog 69) 1 (lp (A5 Try.prog 69) 1) B3g :=
 C5 follows E6 hK7 hS7 B3 (A9 _) B1O B3f B8H
def B1P:B3R→Vm.St
 | .m xs a b i s j=>⟨[(0,.o 0 1),(1,.i .i64 a),(2,.i .i64 b),(6,.b false),(7,.i .i64 i),(8,.i .i64 s),(9,.i .i64 j)],(.n (some (.row 22 1 xs false false)) .e .e),[0],1,some []⟩
def C18 (R:Type) (kx:Exit→Vm.St→Option R):C45→Option R
 | .o xs a b i s j=>kx (.exit 4) ⟨[(0,.o 0 1),(1,.i .i64 a),(2,.i .i64 b),(6,.b false),(7,.i .i64 i),(8,.i .i64 s),(9,.i .i64 j)],(.n (some (.row 22 1 xs false false)) .e .e),[0],128,some []⟩
def A9P:Vm.St→Option B3R
 | ⟨[(0,.o 0 1),(1,.i .i64 a),(2,.i .i64 b),(6,.b false),(7,.i .i64 i),(8,.i .i64 s),(9,.i .i64 j)],(.n (some (.row 22 1 xs false false)) .e .e),[0],1,some []⟩=>some (.m xs a b i s j)
 | _=>none
theorem B3h (τ:Vm.St) (x:B3R) (h:A9P τ=some x):τ=B1P x:=by
 unfold A9P at h
 split at h<;>first | (cases h;rfl) | cases h
theorem B8I (R:Type) (of:Nat→Option Ob) (x:B3R) (K:Vm.St→Option R) (kx:Exit→Vm.St→Option R):E2 T K7 (fun _=>none) false FU (C3 Try.prog 69) of R (lp (A5 Try.prog 69) 2) (B1P x) (H0 1 [999999,0,1,2,6,7,8,9] 128 K kx)=A8b R x (fun x'=>K (B1P x')) (C18 R kx):=by
 cases x with
 | m _ _ _ _ _ _=>kernel_rfl
def B3i:LS:=H5 T K7 (fun _=>none) (C3 Try.prog 69) (lp (A5 Try.prog 69) 2) 1 [999999,0,1,2,6,7,8,9] 128 A9P A8b C18
theorem A34:E4 Try.prog T (C3 Try.prog 69) 1 (lp (A5 Try.prog 69) 2) B3i :=
 C5 follows E6 hK7 hS7 B3 (A9 _) B1P B3h B8I
def B1Q:B3S→Vm.St
 | .m xs a b i s j=>⟨[(0,.o 0 1),(1,.i .i64 a),(2,.i .i64 b),(6,.b false),(7,.i .i64 i),(8,.i .i64 s),(10,.i .i64 j)],(.n (some (.row 22 1 xs false false)) .e .e),[0],1,some []⟩
def C19 (R:Type) (kx:Exit→Vm.St→Option R):C46→Option R
 | .o xs a b i s j=>kx (.exit 6) ⟨[(0,.o 0 1),(1,.i .i64 a),(2,.i .i64 b),(6,.b false),(7,.i .i64 i),(8,.i .i64 s),(10,.i .i64 j)],(.n (some (.row 22 1 xs false false)) .e .e),[0],256,some []⟩
def A9Q:Vm.St→Option B3S
 | ⟨[(0,.o 0 1),(1,.i .i64 a),(2,.i .i64 b),(6,.b false),(7,.i .i64 i),(8,.i .i64 s),(10,.i .i64 j)],(.n (some (.row 22 1 xs false false)) .e .e),[0],1,some []⟩=>some (.m xs a b i s j)
 | _=>none
theorem B3j (τ:Vm.St) (x:B3S) (h:A9Q τ=some x):τ=B1Q x:=by
 unfold A9Q at h
 split at h<;>first | (cases h;rfl) | cases h
theorem B8J (R:Type) (of:Nat→Option Ob) (x:B3S) (K:Vm.St→Option R) (kx:Exit→Vm.St→Option R):E2 T K7 (fun _=>none) false FU (C3 Try.prog 69) of R (lp (A5 Try.prog 69) 3) (B1Q x) (H0 1 [999999,0,1,2,6,7,8,10] 256 K kx)=A8c R x (fun x'=>K (B1Q x')) (C19 R kx):=by
 cases x with
 | m _ _ _ _ _ _=>kernel_rfl
def B3k:LS:=H5 T K7 (fun _=>none) (C3 Try.prog 69) (lp (A5 Try.prog 69) 3) 1 [999999,0,1,2,6,7,8,10] 256 A9Q A8c C19
theorem A35:E4 Try.prog T (C3 Try.prog 69) 1 (lp (A5 Try.prog 69) 3) B3k :=
 C5 follows E6 hK7 hS7 B3 (A9 _) B1Q B3j B8J
def B1R:B3T→Vm.St
 | .m xs a i j=>⟨[(0,.o 0 1),(1,.i .i64 a),(9,.i .i64 i),(10,.i .i64 j)],(.n (some (.row 22 1 xs false false)) .e .e),[0],1,some []⟩
def C2a (R:Type) (kx:Exit→Vm.St→Option R):C47→Option R
 | .o xs a i j=>kx (.exit 2) ⟨[(0,.o 0 1),(1,.i .i64 a),(9,.i .i64 i),(10,.i .i64 j)],(.n (some (.row 22 1 xs false false)) .e .e),[0],64,some []⟩
def A9R:Vm.St→Option B3T
 | ⟨[(0,.o 0 1),(1,.i .i64 a),(9,.i .i64 i),(10,.i .i64 j)],(.n (some (.row 22 1 xs false false)) .e .e),[0],1,some []⟩=>some (.m xs a i j)
 | _=>none
theorem B3l (τ:Vm.St) (x:B3T) (h:A9R τ=some x):τ=B1R x:=by
 unfold A9R at h
 split at h<;>first | (cases h;rfl) | cases h
theorem B8K (R:Type) (of:Nat→Option Ob) (x:B3T) (K:Vm.St→Option R) (kx:Exit→Vm.St→Option R):E2 T K7 (fun _=>none) false FU (C3 Try.prog 71) of R (lp (A5 Try.prog 71) 1) (B1R x) (H0 1 [999999,0,1,9,10] 64 K kx)=B3U R x (fun x'=>K (B1R x')) (C2a R kx):=by
 cases x with
 | m _ _ _ _=>kernel_rfl
def B3m:LS:=H5 T K7 (fun _=>none) (C3 Try.prog 71) (lp (A5 Try.prog 71) 1) 1 [999999,0,1,9,10] 64 A9R B3U C2a
theorem A36:E4 Try.prog T (C3 Try.prog 71) 1 (lp (A5 Try.prog 71) 1) B3m :=
 C5 follows E6 hK7 hS7 B3 (A9 _) B1R B3l B8K
def B1S:B3V→Vm.St
 | .m xs a i j=>⟨[(0,.o 0 1),(1,.i .i64 a),(9,.i .i64 i),(10,.i .i64 j)],(.n (some (.row 22 1 xs false false)) .e .e),[0],1,some []⟩
def C2b (R:Type) (kx:Exit→Vm.St→Option R):C48→Option R
 | .o xs a i j=>kx (.exit 4) ⟨[(0,.o 0 1),(1,.i .i64 a),(9,.i .i64 i),(10,.i .i64 j)],(.n (some (.row 22 1 xs false false)) .e .e),[0],128,some []⟩
def A9S:Vm.St→Option B3V
 | ⟨[(0,.o 0 1),(1,.i .i64 a),(9,.i .i64 i),(10,.i .i64 j)],(.n (some (.row 22 1 xs false false)) .e .e),[0],1,some []⟩=>some (.m xs a i j)
 | _=>none
theorem B3n (τ:Vm.St) (x:B3V) (h:A9S τ=some x):τ=B1S x:=by
 unfold A9S at h
 split at h<;>first | (cases h;rfl) | cases h
theorem B8L (R:Type) (of:Nat→Option Ob) (x:B3V) (K:Vm.St→Option R) (kx:Exit→Vm.St→Option R):E2 T K7 (fun _=>none) false FU (C3 Try.prog 71) of R (lp (A5 Try.prog 71) 2) (B1S x) (H0 1 [999999,0,1,9,10] 128 K kx)=B3W R x (fun x'=>K (B1S x')) (C2b R kx):=by
 cases x with
 | m _ _ _ _=>kernel_rfl
def B3o:LS:=H5 T K7 (fun _=>none) (C3 Try.prog 71) (lp (A5 Try.prog 71) 2) 1 [999999,0,1,9,10] 128 A9S B3W C2b
theorem A37:E4 Try.prog T (C3 Try.prog 71) 1 (lp (A5 Try.prog 71) 2) B3o :=
 C5 follows E6 hK7 hS7 B3 (A9 _) B1S B3n B8L
def B1T:B3X→Vm.St
 | .m xs a i j=>⟨[(0,.o 0 1),(1,.i .i64 a),(10,.i .i64 i),(11,.i .i64 j)],(.n (some (.row 22 1 xs false false)) .e .e),[0],1,some []⟩
def C2c (R:Type) (kx:Exit→Vm.St→Option R):C49→Option R
 | .o xs a i j=>kx (.exit 0) ⟨[(0,.o 0 1),(1,.i .i64 a),(10,.i .i64 i),(11,.i .i64 j)],(.n (some (.row 22 1 xs false false)) .e .e),[0],64,some []⟩
def A9T:Vm.St→Option B3X
 | ⟨[(0,.o 0 1),(1,.i .i64 a),(10,.i .i64 i),(11,.i .i64 j)],(.n (some (.row 22 1 xs false false)) .e .e),[0],1,some []⟩=>some (.m xs a i j)
 | _=>none
theorem B3p (τ:Vm.St) (x:B3X) (h:A9T τ=some x):τ=B1T x:=by
 unfold A9T at h
 split at h<;>first | (cases h;rfl) | cases h
theorem B8M (R:Type) (of:Nat→Option Ob) (x:B3X) (K:Vm.St→Option R) (kx:Exit→Vm.St→Option R):E2 T K7 (fun _=>none) false FU (C3 Try.prog 72) of R (lp (A5 Try.prog 72) 0) (B1T x) (H0 1 [999999,0,1,10,11] 64 K kx)=B3Y R x (fun x'=>K (B1T x')) (C2c R kx):=by
 cases x with
 | m _ _ _ _=>kernel_rfl
def C3f:LS:=H5 T K7 (fun _=>none) (C3 Try.prog 72) (lp (A5 Try.prog 72) 0) 1 [999999,0,1,10,11] 64 A9T B3Y C2c
theorem B1U:E4 Try.prog T (C3 Try.prog 72) 1 (lp (A5 Try.prog 72) 0) C3f :=
 C5 follows E6 hK7 hS7 B3 (A9 _) B1T B3p B8M
def B1V:B31→Vm.St
 | .m xs a i j=>⟨[(0,.o 0 1),(1,.i .i64 a),(10,.i .i64 i),(11,.i .i64 j)],(.n (some (.row 22 1 xs false false)) .e .e),[0],1,some []⟩
def C2d (R:Type) (kx:Exit→Vm.St→Option R):C5b→Option R
 | .o xs a i j=>kx (.exit 2) ⟨[(0,.o 0 1),(1,.i .i64 a),(10,.i .i64 i),(11,.i .i64 j)],(.n (some (.row 22 1 xs false false)) .e .e),[0],128,some []⟩
def A9U:Vm.St→Option B31
 | ⟨[(0,.o 0 1),(1,.i .i64 a),(10,.i .i64 i),(11,.i .i64 j)],(.n (some (.row 22 1 xs false false)) .e .e),[0],1,some []⟩=>some (.m xs a i j)
 | _=>none
theorem B3q (τ:Vm.St) (x:B31) (h:A9U τ=some x):τ=B1V x:=by
 unfold A9U at h
 split at h<;>first | (cases h;rfl) | cases h
theorem B8N (R:Type) (of:Nat→Option Ob) (x:B31) (K:Vm.St→Option R) (kx:Exit→Vm.St→Option R):E2 T K7 (fun _=>none) false FU (C3 Try.prog 72) of R (lp (A5 Try.prog 72) 1) (B1V x) (H0 1 [999999,0,1,10,11] 128 K kx)=B32 R x (fun x'=>K (B1V x')) (C2d R kx):=by
 cases x with
 | m _ _ _ _=>kernel_rfl
def C3g:LS:=H5 T K7 (fun _=>none) (C3 Try.prog 72) (lp (A5 Try.prog 72) 1) 1 [999999,0,1,10,11] 128 A9U B32 C2d
theorem B1W:E4 Try.prog T (C3 Try.prog 72) 1 (lp (A5 Try.prog 72) 1) C3g :=
 C5 follows E6 hK7 hS7 B3 (A9 _) B1V B3q B8N
def B1X:B3Z→Vm.St
 | .m xs a i j=>⟨[(0,.o 0 1),(1,.i .i64 a),(10,.i .i64 i),(11,.i .i64 j)],(.n (some (.row 22 1 xs false false)) .e .e),[0],1,some []⟩
def C2e (R:Type) (kx:Exit→Vm.St→Option R):C5a→Option R
 | .o xs a i j=>kx (.exit 6) ⟨[(0,.o 0 1),(1,.i .i64 a),(10,.i .i64 i),(11,.i .i64 j)],(.n (some (.row 22 1 xs false false)) .e .e),[0],256,some []⟩
def A9V:Vm.St→Option B3Z
 | ⟨[(0,.o 0 1),(1,.i .i64 a),(10,.i .i64 i),(11,.i .i64 j)],(.n (some (.row 22 1 xs false false)) .e .e),[0],1,some []⟩=>some (.m xs a i j)
 | _=>none
theorem B3r (τ:Vm.St) (x:B3Z) (h:A9V τ=some x):τ=B1X x:=by
 unfold A9V at h
 split at h<;>first | (cases h;rfl) | cases h
theorem B8O (R:Type) (of:Nat→Option Ob) (x:B3Z) (K:Vm.St→Option R) (kx:Exit→Vm.St→Option R):E2 T K7 (fun _=>none) false FU (C3 Try.prog 72) of R (lp (A5 Try.prog 72) 3) (B1X x) (H0 1 [999999,0,1,10,11] 256 K kx)=B30 R x (fun x'=>K (B1X x')) (C2e R kx):=by
 cases x with
 | m _ _ _ _=>kernel_rfl
def B3s:LS:=H5 T K7 (fun _=>none) (C3 Try.prog 72) (lp (A5 Try.prog 72) 3) 1 [999999,0,1,10,11] 256 A9V B30 C2e
theorem A38:E4 Try.prog T (C3 Try.prog 72) 1 (lp (A5 Try.prog 72) 3) B3s :=
 C5 follows E6 hK7 hS7 B3 (A9 _) B1X B3r B8O
def B1Y:B33→Vm.St
 | .m xs a i j=>⟨[(0,.o 0 1),(1,.i .i64 a),(10,.i .i64 i),(11,.i .i64 j)],(.n (some (.row 22 1 xs false false)) .e .e),[0],1,some []⟩
def C2f (R:Type) (kx:Exit→Vm.St→Option R):C5c→Option R
 | .o xs a i j=>kx (.exit 8) ⟨[(0,.o 0 1),(1,.i .i64 a),(10,.i .i64 i),(11,.i .i64 j)],(.n (some (.row 22 1 xs false false)) .e .e),[0],512,some []⟩
def A9W:Vm.St→Option B33
 | ⟨[(0,.o 0 1),(1,.i .i64 a),(10,.i .i64 i),(11,.i .i64 j)],(.n (some (.row 22 1 xs false false)) .e .e),[0],1,some []⟩=>some (.m xs a i j)
 | _=>none
theorem B3t (τ:Vm.St) (x:B33) (h:A9W τ=some x):τ=B1Y x:=by
 unfold A9W at h
 split at h<;>first | (cases h;rfl) | cases h
theorem B8P (R:Type) (of:Nat→Option Ob) (x:B33) (K:Vm.St→Option R) (kx:Exit→Vm.St→Option R):E2 T K7 (fun _=>none) false FU (C3 Try.prog 72) of R (lp (A5 Try.prog 72) 4) (B1Y x) (H0 1 [999999,0,1,10,11] 512 K kx)=B34 R x (fun x'=>K (B1Y x')) (C2f R kx):=by
 cases x with
 | m _ _ _ _=>kernel_rfl
def B3u:LS:=H5 T K7 (fun _=>none) (C3 Try.prog 72) (lp (A5 Try.prog 72) 4) 1 [999999,0,1,10,11] 512 A9W B34 C2f
theorem A39:E4 Try.prog T (C3 Try.prog 72) 1 (lp (A5 Try.prog 72) 4) B3u :=
 C5 follows E6 hK7 hS7 B3 (A9 _) B1Y B3t B8P
end Go.Proofs.Ytgnfgafiegimoaa
namespace Go.Proofs.Ytgnfgafiegimoaa
open Go.Vm
set_option maxRecDepth 100000
set_option linter.unusedVariables false
set_option linter.constructorNameAsVariable false
def B1Z:B35→Vm.St
 | .m xs a b i=>⟨[(0,.o 0 1),(1,.i .i64 a),(2,.i .i64 b),(6,.i .i64 i)],(.n (some (.row 22 1 xs false false)) .e .e),[0],1,some []⟩
def C2g (R:Type) (kx:Exit→Vm.St→Option R):C5d→Option R
 | .o xs a b i=>kx (.exit 0) ⟨[(0,.o 0 1),(1,.i .i64 a),(2,.i .i64 b),(6,.i .i64 i)],(.n (some (.row 22 1 xs false false)) .e .e),[0],128,some []⟩
def A9X:Vm.St→Option B35
 | ⟨[(0,.o 0 1),(1,.i .i64 a),(2,.i .i64 b),(6,.i .i64 i)],(.n (some (.row 22 1 xs false false)) .e .e),[0],1,some []⟩=>some (.m xs a b i)
 | _=>none
theorem B3v (τ:Vm.St) (x:B35) (h:A9X τ=some x):τ=B1Z x:=by
 unfold A9X at h
 split at h<;>first | (cases h;rfl) | cases h
theorem B8Q (R:Type) (of:Nat→Option Ob) (x:B35) (K:Vm.St→Option R) (kx:Exit→Vm.St→Option R):E2 T K7 (loT [(4,B3c)]) false FU (C3 Try.prog 64) of R (lp (A5 Try.prog 64) 0) (B1Z x) (H0 1 [999999,0,1,2,6] 128 K kx)=A8o R x (fun x'=>K (B1Z x')) (C2g R kx):=by
 cases x with
 | m _ _ _ _=>kernel_rfl
def C3h:LS:=H5 T K7 (loT [(4,B3c)]) (C3 Try.prog 64) (lp (A5 Try.prog 64) 0) 1 [999999,0,1,2,6] 128 A9X A8o C2g
theorem B10:E4 Try.prog T (C3 Try.prog 64) 1 (lp (A5 Try.prog 64) 0) C3h :=
 C5 follows E6 hK7 hS7 (A08 (List.forall_mem_cons.2 ⟨A32.1,fun _ h=>by cases h⟩)) (R9 1 (by kernel_rfl) ⟨trivial,loI (s0:=B3c) (by kernel_rfl) ((show lp (lp (A5 Try.prog 64) 0) 0=lp (A5 Try.prog 64) 1 from by kernel_rfl) ▸ A32)⟩) B1Z B3v B8Q
def B11:B0g→Vm.St
 | .m xs a b i s=>⟨[(0,.o 0 1),(1,.i .i64 a),(2,.i .i64 b),(6,.b false),(7,.i .i64 i),(8,.i .i64 s)],(.n (some (.row 22 1 xs false false)) .e .e),[0],1,some []⟩
def C2h (R:Type) (kx:Exit→Vm.St→Option R):B9I→Option R
 | .o xs a b i s=>kx (.exit 0) ⟨[(0,.o 0 1),(1,.i .i64 a),(2,.i .i64 b),(6,.b false),(7,.i .i64 i),(8,.i .i64 s)],(.n (some (.row 22 1 xs false false)) .e .e),[0],512,some []⟩
 | .r xs a b i s=>kx (.ret) ⟨[(0,.o 0 1),(1,.i .i64 a),(2,.i .i64 b),(6,.b false),(7,.i .i64 i),(8,.i .i64 s)],(.n (some (.row 22 1 xs false false)) .e .e),[0],512,some []⟩
 | .t xs a b i s=>kx (.ret) ⟨[(0,.o 0 1),(1,.i .i64 a),(2,.i .i64 b),(6,.b true),(7,.i .i64 i),(8,.i .i64 s)],(.n (some (.row 22 1 xs false false)) .e .e),[0],512,some []⟩
def A9Y:Vm.St→Option B0g
 | ⟨[(0,.o 0 1),(1,.i .i64 a),(2,.i .i64 b),(6,.b false),(7,.i .i64 i),(8,.i .i64 s)],(.n (some (.row 22 1 xs false false)) .e .e),[0],1,some []⟩=>some (.m xs a b i s)
 | _=>none
theorem B3w (τ:Vm.St) (x:B0g) (h:A9Y τ=some x):τ=B11 x:=by
 unfold A9Y at h
 split at h<;>first | (cases h;rfl) | cases h
theorem B8R (R:Type) (of:Nat→Option Ob) (x:B0g) (K:Vm.St→Option R) (kx:Exit→Vm.St→Option R):E2 T K7 (loT [(5,B3g),(14,B3i),(20,B3k)]) false FU (C3 Try.prog 69) of R (lp (A5 Try.prog 69) 0) (B11 x) (H0 1 [999999,0,1,2,6,7,8] 512 K kx)=A29 R x (fun x'=>K (B11 x')) (C2h R kx):=by
 cases x with
 | m _ _ _ _ _=>kernel_rfl
def C3i:LS:=H5 T K7 (loT [(5,B3g),(14,B3i),(20,B3k)]) (C3 Try.prog 69) (lp (A5 Try.prog 69) 0) 1 [999999,0,1,2,6,7,8] 512 A9Y A29 C2h
theorem B12:E4 Try.prog T (C3 Try.prog 69) 1 (lp (A5 Try.prog 69) 0) C3i :=
 C5 follows E6 hK7 hS7 (A08 (List.forall_mem_cons.2 ⟨A33.1,List.forall_mem_cons.2 ⟨A34.1,List.forall_mem_cons.2 ⟨A35.1,fun _ h=>by cases h⟩⟩⟩)) (R9 3 (by kernel_rfl) ⟨⟨⟨trivial,loI (s0:=B3g) (by kernel_rfl) ((show lp (lp (A5 Try.prog 69) 0) 0=lp (A5 Try.prog 69) 1 from by kernel_rfl) ▸ A33)⟩,loI (s0:=B3i) (by kernel_rfl) ((show lp (lp (A5 Try.prog 69) 0) 1=lp (A5 Try.prog 69) 2 from by kernel_rfl) ▸ A34)⟩,loI (s0:=B3k) (by kernel_rfl) ((show lp (lp (A5 Try.prog 69) 0) 2=lp (A5 Try.prog 69) 3 from by kernel_rfl) ▸ A35)⟩) B11 B3w B8R
def B13:B36→Vm.St
 | .m xs a i j=>⟨[(0,.o 0 1),(1,.i .i64 a),(9,.i .i64 i),(10,.i .i64 j)],(.n (some (.row 22 1 xs false false)) .e .e),[0],1,some []⟩
def C2i (R:Type) (kx:Exit→Vm.St→Option R):C5e→Option R
 | .o xs a i j=>kx (.exit 0) ⟨[(0,.o 0 1),(1,.i .i64 a),(9,.i .i64 i),(10,.i .i64 j)],(.n (some (.row 22 1 xs false false)) .e .e),[0],256,some []⟩
def A9Z:Vm.St→Option B36
 | ⟨[(0,.o 0 1),(1,.i .i64 a),(9,.i .i64 i),(10,.i .i64 j)],(.n (some (.row 22 1 xs false false)) .e .e),[0],1,some []⟩=>some (.m xs a i j)
 | _=>none
theorem B3x (τ:Vm.St) (x:B36) (h:A9Z τ=some x):τ=B13 x:=by
 unfold A9Z at h
 split at h<;>first | (cases h;rfl) | cases h
theorem B8S (R:Type) (of:Nat→Option Ob) (x:B36) (K:Vm.St→Option R) (kx:Exit→Vm.St→Option R):E2 T K7 (loT [(3,B3m),(5,B3o)]) false FU (C3 Try.prog 71) of R (lp (A5 Try.prog 71) 0) (B13 x) (H0 1 [999999,0,1,9,10] 256 K kx)=A8p R x (fun x'=>K (B13 x')) (C2i R kx):=by
 cases x with
 | m _ _ _ _=>kernel_rfl
def C3j:LS:=H5 T K7 (loT [(3,B3m),(5,B3o)]) (C3 Try.prog 71) (lp (A5 Try.prog 71) 0) 1 [999999,0,1,9,10] 256 A9Z A8p C2i
theorem B14:E4 Try.prog T (C3 Try.prog 71) 1 (lp (A5 Try.prog 71) 0) C3j :=
 C5 follows E6 hK7 hS7 (A08 (List.forall_mem_cons.2 ⟨A36.1,List.forall_mem_cons.2 ⟨A37.1,fun _ h=>by cases h⟩⟩)) (R9 2 (by kernel_rfl) ⟨⟨trivial,loI (s0:=B3m) (by kernel_rfl) ((show lp (lp (A5 Try.prog 71) 0) 0=lp (A5 Try.prog 71) 1 from by kernel_rfl) ▸ A36)⟩,loI (s0:=B3o) (by kernel_rfl) ((show lp (lp (A5 Try.prog 71) 0) 1=lp (A5 Try.prog 71) 2 from by kernel_rfl) ▸ A37)⟩) B13 B3x B8S
def B15:B37→Vm.St
 | .m xs a i j=>⟨[(0,.o 0 1),(1,.i .i64 a),(10,.i .i64 i),(11,.i .i64 j)],(.n (some (.row 22 1 xs false false)) .e .e),[0],1,some []⟩
def C2j (R:Type) (kx:Exit→Vm.St→Option R):C5f→Option R
 | .o xs a i j=>kx (.exit 4) ⟨[(0,.o 0 1),(1,.i .i64 a),(10,.i .i64 i),(11,.i .i64 j)],(.n (some (.row 22 1 xs false false)) .e .e),[0],1024,some []⟩
def A90:Vm.St→Option B37
 | ⟨[(0,.o 0 1),(1,.i .i64 a),(10,.i .i64 i),(11,.i .i64 j)],(.n (some (.row 22 1 xs false false)) .e .e),[0],1,some []⟩=>some (.m xs a i j)
 | _=>none
theorem B3y (τ:Vm.St) (x:B37) (h:A90 τ=some x):τ=B15 x:=by
 unfold A90 at h
 split at h<;>first | (cases h;rfl) | cases h
theorem B8T (R:Type) (of:Nat→Option Ob) (x:B37) (K:Vm.St→Option R) (kx:Exit→Vm.St→Option R):E2 T K7 (loT [(13,B3s),(15,B3u)]) false FU (C3 Try.prog 72) of R (lp (A5 Try.prog 72) 2) (B15 x) (H0 1 [999999,0,1,10,11] 1024 K kx)=B0f R x (fun x'=>K (B15 x')) (C2j R kx):=by
 cases x with
 | m _ _ _ _=>kernel_rfl
def C3k:LS:=H5 T K7 (loT [(13,B3s),(15,B3u)]) (C3 Try.prog 72) (lp (A5 Try.prog 72) 2) 1 [999999,0,1,10,11] 1024 A90 B0f C2j
theorem B16:E4 Try.prog T (C3 Try.prog 72) 1 (lp (A5 Try.prog 72) 2) C3k :=
 C5 follows E6 hK7 hS7 (A08 (List.forall_mem_cons.2 ⟨A38.1,List.forall_mem_cons.2 ⟨A39.1,fun _ h=>by cases h⟩⟩)) (R9 2 (by kernel_rfl) ⟨⟨trivial,loI (s0:=B3s) (by kernel_rfl) ((show lp (lp (A5 Try.prog 72) 2) 0=lp (A5 Try.prog 72) 3 from by kernel_rfl) ▸ A38)⟩,loI (s0:=B3u) (by kernel_rfl) ((show lp (lp (A5 Try.prog 72) 2) 1=lp (A5 Try.prog 72) 4 from by kernel_rfl) ▸ A39)⟩) B15 B3y B8T
def C2k:Nat→LC:=A66 1 [(1001,C3h),(4,B3c)]
theorem A7S:J9 Try.prog T 64 C2k:=W2 1 (List.forall_mem_cons.2 ⟨B10.1,List.forall_mem_cons.2 ⟨A32.1,fun _ h=>by cases h⟩⟩) 2 (by kernel_rfl) ⟨⟨trivial,loI (s0:=C3h) (by kernel_rfl) B10⟩,loI (s0:=B3c) (by kernel_rfl) A32⟩
def C2l:Nat→LC:=A66 1 [(1,C3d)]
theorem A7T:J9 Try.prog T 76 C2l:=W2 1 (List.forall_mem_cons.2 ⟨B1L.1,fun _ h=>by cases h⟩) 1 (by kernel_rfl) ⟨trivial,loI (s0:=C3d) (by kernel_rfl) B1L⟩
def C2m:Nat→LC:=A66 1 [(2,C3e)]
theorem A7U:J9 Try.prog T 68 C2m:=W2 1 (List.forall_mem_cons.2 ⟨B1N.1,fun _ h=>by cases h⟩) 1 (by kernel_rfl) ⟨trivial,loI (s0:=C3e) (by kernel_rfl) B1N⟩
def C2n:Nat→LC:=A66 1 [(3003,C3i),(5,B3g),(14,B3i),(20,B3k)]
theorem A7V:J9 Try.prog T 69 C2n:=W2 1 (List.forall_mem_cons.2 ⟨B12.1,List.forall_mem_cons.2 ⟨A33.1,List.forall_mem_cons.2 ⟨A34.1,List.forall_mem_cons.2 ⟨A35.1,fun _ h=>by cases h⟩⟩⟩⟩) 4 (by kernel_rfl) ⟨⟨⟨⟨trivial,loI (s0:=C3i) (by kernel_rfl) B12⟩,loI (s0:=B3g) (by kernel_rfl) A33⟩,loI (s0:=B3i) (by kernel_rfl) A34⟩,loI (s0:=B3k) (by kernel_rfl) A35⟩
def C2o:Nat→LC:=A66 1 [(2003,C3j),(3,B3m),(5,B3o)]
theorem A7W:J9 Try.prog T 71 C2o:=W2 1 (List.forall_mem_cons.2 ⟨B14.1,List.forall_mem_cons.2 ⟨A36.1,List.forall_mem_cons.2 ⟨A37.1,fun _ h=>by cases h⟩⟩⟩) 3 (by kernel_rfl) ⟨⟨⟨trivial,loI (s0:=C3j) (by kernel_rfl) B14⟩,loI (s0:=B3m) (by kernel_rfl) A36⟩,loI (s0:=B3o) (by kernel_rfl) A37⟩
def C2p:Nat→LC:=A66 1 [(3,C3f),(5,C3g),(2013,C3k),(13,B3s),(15,B3u)]
theorem A7X:J9 Try.prog T 72 C2p:=W2 1 (List.forall_mem_cons.2 ⟨B1U.1,List.forall_mem_cons.2 ⟨B1W.1,List.forall_mem_cons.2 ⟨B16.1,List.forall_mem_cons.2 ⟨A38.1,List.forall_mem_cons.2 ⟨A39.1,fun _ h=>by cases h⟩⟩⟩⟩⟩) 5 (by kernel_rfl) ⟨⟨⟨⟨⟨trivial,loI (s0:=C3f) (by kernel_rfl) B1U⟩,loI (s0:=C3g) (by kernel_rfl) B1W⟩,loI (s0:=C3k) (by kernel_rfl) B16⟩,loI (s0:=B3s) (by kernel_rfl) A38⟩,loI (s0:=B3u) (by kernel_rfl) A39⟩
end Go.Proofs.Ytgnfgafiegimoaa
namespace Go.Proofs.Ytgnfgafiegimoaa
open Go.Vm
set_option maxRecDepth 100000
set_option linter.unusedVariables false
set_option linter.constructorNameAsVariable false
theorem B8U (xs:List V) (a b:Int):(V9 Try.prog T K7 C2k false FU 64).dir [.o 0 1,.i .i64 a,.i .i64 b] (ofL [.row 22 1 xs false false]) 1=C5h G9 xs a b (fun ys=>some (⟨.t [],[(0,.row 22 1 ys false false)],[0],128⟩:G9)):=by kernel_rfl
theorem B8V:U0 Try.prog T 64 (P7 (rc2 22) gAB (W1 22 1024 (fun _=>.t []) A8d)).dir :=
 A27 (N7 follows E6 hK7 hS7 A7S.nat A7S.ok) (fun xs a b hg=>⟨128,[0],by first | decide | (cases A2c _<;>decide),(B8U xs a b).trans (B54 (R:=G9) hg (fun ys=>some (⟨.t [],[(0,.row 22 1 ys false false)],[0],128⟩:G9))),by simp⟩)
theorem B8W (xs:List V) (a b c:Int):(V9 Try.prog T K7 C2l false FU 76).dir [.o 0 1,.i .i64 a,.i .i64 b,.i .i64 c] (ofL [.row 22 1 xs false false]) 1=C5i G9 xs a b c (fun ys=>some (⟨.t [],[(0,.row 22 1 ys false false)],[0],64⟩:G9)):=by kernel_rfl
theorem B8X:U0 Try.prog T 76 (P7 (rc3 22) gSf (W1 22 1024 (fun _=>.t []) A5J)).dir :=
 A28 (N7 follows E6 hK7 hS7 A7T.nat A7T.ok) (fun xs a b c hg=>⟨64,[0],by first | decide | (cases A2c _<;>decide),(B8W xs a b c).trans (B55 (R:=G9) hg (fun ys=>some (⟨.t [],[(0,.row 22 1 ys false false)],[0],64⟩:G9))),by simp⟩)
theorem B8Y (xs:List V) (a b:Int):(V9 Try.prog T K7 C2m false FU 68).dir [.o 0 1,.i .i64 a,.i .i64 b] (ofL [.row 22 1 xs false false]) 1=C5j G9 xs a b (fun ys=>some (⟨.t [],[(0,.row 22 1 ys false false)],[0],64⟩:G9)):=by kernel_rfl
theorem B8Z:U0 Try.prog T 68 (P7 (rc2 22) gAb (W1 22 1024 (fun _=>.t []) A5K)).dir :=
 A27 (N7 follows E6 hK7 hS7 A7U.nat A7U.ok) (fun xs a b hg=>⟨64,[0],by first | decide | (cases A2c _<;>decide),(B8Y xs a b).trans (B56 (R:=G9) hg (fun ys=>some (⟨.t [],[(0,.row 22 1 ys false false)],[0],64⟩:G9))),by simp⟩)
theorem B80 (xs:List V) (a b:Int):(V9 Try.prog T K7 C2n false FU 69).dir [.o 0 1,.i .i64 a,.i .i64 b] (ofL [.row 22 1 xs false false]) 1=C5k G9 xs a b (fun b ys=>some (⟨.b b,[(0,.row 22 1 ys false false)],[0],512⟩:G9)):=by kernel_rfl
theorem B81:U0 Try.prog T 69 (P7 (rc2 22) gAb (W1 22 1024 (fun s=>.b (A8g s)) A65)).dir :=
 A27 (N7 follows E6 hK7 hS7 A7V.nat A7V.ok) (fun xs a b hg=>⟨512,[0],by first | decide | (cases A2c _<;>decide),(B80 xs a b).trans (B57 (R:=G9) hg (fun b ys=>some (⟨.b b,[(0,.row 22 1 ys false false)],[0],512⟩:G9))),by simp⟩)
theorem B82 (xs:List V) (a b c:Int):(V9 Try.prog T K7 C2o false FU 71).dir [.o 0 1,.i .i64 a,.i .i64 b,.i .i64 c] (ofL [.row 22 1 xs false false]) 1=C5l G9 xs a b c (fun i ys=>some (⟨.i .i64 i,[(0,.row 22 1 ys false false)],[0],256⟩:G9)):=by kernel_rfl
theorem B83:U0 Try.prog T 71 (P7 (rc3 22) gAP (W1 22 1024 (fun s=>.i .i64 (A8i s)) A8h)).dir :=
 A28 (N7 follows E6 hK7 hS7 A7W.nat A7W.ok) (fun xs a b c hg=>⟨256,[0],by first | decide | (cases A2c _<;>decide),(B82 xs a b c).trans (B58 (R:=G9) hg (fun i ys=>some (⟨.i .i64 i,[(0,.row 22 1 ys false false)],[0],256⟩:G9))),by simp⟩)
theorem B84 (xs:List V) (a b c:Int):(V9 Try.prog T K7 C2p false FU 72).dir [.o 0 1,.i .i64 a,.i .i64 b,.i .i64 c] (ofL [.row 22 1 xs false false]) 1=C3y G9 xs a b c (fun j b ys=>some (⟨.t [.i .i64 j,.b b],[(0,.row 22 1 ys false false)],[0],bif b then 128 else 1024⟩:G9)):=by kernel_rfl
theorem B85:U0 Try.prog T 72 (P7 (rc3 22) gAP (W1 22 1024 (fun s=>.t [.i .i64 (A8k s),.b (A2c s)]) A8j)).dir :=
 A28 (N7 follows E6 hK7 hS7 A7X.nat A7X.ok) (fun xs a b c hg=>⟨bif A2c ⟨xs,a,b,c⟩ then 128 else 1024,[0],by first | decide | (cases A2c _<;>decide),(B84 xs a b c).trans (B9T (R:=G9) hg (fun j b ys=>some (⟨.t [.i .i64 j,.b b],[(0,.row 22 1 ys false false)],[0],bif b then 128 else 1024⟩:G9))),by simp⟩)
def C3l:List (Nat×G2):=(64,trS (P7 (rc2 22) gAB (W1 22 1024 (fun _=>.t []) A8d)))::(76,trS (P7 (rc3 22) gSf (W1 22 1024 (fun _=>.t []) A5J)))::(68,trS (P7 (rc2 22) gAb (W1 22 1024 (fun _=>.t []) A5K)))::(69,trS (P7 (rc2 22) gAb (W1 22 1024 (fun s=>.b (A8g s)) A65)))::(71,trS (P7 (rc3 22) gAP (W1 22 1024 (fun s=>.i .i64 (A8i s)) A8h)))::(72,trS (P7 (rc3 22) gAP (W1 22 1024 (fun s=>.t [.i .i64 (A8k s),.b (A2c s)]) A8j)))::C3c
theorem A6S:J0 Try.prog T C3l:=((((((A6R).cons (R4 D8) (V0 D8 B85)).cons (R4 D8) (V0 D8 B83)).cons (R4 D8) (V0 D8 B81)).cons (R4 D8) (V0 D8 B8Z)).cons (R4 D8) (V0 D8 B8X)).cons (R4 D8) (V0 D8 B8V)
def K8:KC:=J7 Try.prog T C3l false FU 4
theorem hK8:K8.nat:=E1 A6S 4
theorem hS8:KOK Try.prog T K8.dir:=G7 follows E6 A6S 4
end Go.Proofs.Ytgnfgafiegimoaa
namespace Go.Proofs.Ytgnfgafiegimoaa
open Go.Vm
set_option maxRecDepth 100000
set_option linter.unusedVariables false
set_option linter.constructorNameAsVariable false
def B17:B4r→Vm.St
 | .m xs f h i=>⟨[(0,.o 0 1),(6,.i .i64 f),(7,.i .i64 0),(8,.i .i64 h),(9,.i .i64 i)],(.n (some (.row 22 1 xs false false)) .e .e),[0],1,some []⟩
def C2q (R:Type) (kx:Exit→Vm.St→Option R):C5w→Option R
 | .o xs f h i=>kx (.exit 0) ⟨[(0,.o 0 1),(6,.i .i64 f),(7,.i .i64 0),(8,.i .i64 h),(9,.i .i64 i)],(.n (some (.row 22 1 xs false false)) .e .e),[0],8192,some []⟩
def A91:Vm.St→Option B4r
 | ⟨[(0,.o 0 1),(6,.i .i64 f),(7,.i .i64 0),(8,.i .i64 h),(9,.i .i64 i)],(.n (some (.row 22 1 xs false false)) .e .e),[0],1,some []⟩=>some (.m xs f h i)
 | _=>none
theorem B3z (τ:Vm.St) (x:B4r) (h:A91 τ=some x):τ=B17 x:=by
 unfold A91 at h
 split at h<;>first | (cases h;rfl) | cases h
theorem B86 (R:Type) (of:Nat→Option Ob) (x:B4r) (K:Vm.St→Option R) (kx:Exit→Vm.St→Option R):E2 T K8 (fun _=>none) false FU (C3 Try.prog 65) of R (lp (A5 Try.prog 65) 0) (B17 x) (H0 1 [999999,0,6,7,8,9] 8192 K kx)=B4s R x (fun x'=>K (B17 x')) (C2q R kx):=by
 cases x with
 | m _ _ _ _=>kernel_rfl
def C3m:LS:=H5 T K8 (fun _=>none) (C3 Try.prog 65) (lp (A5 Try.prog 65) 0) 1 [999999,0,6,7,8,9] 8192 A91 B4s C2q
theorem B18:E4 Try.prog T (C3 Try.prog 65) 1 (lp (A5 Try.prog 65) 0) C3m :=
 C5 follows E6 hK8 hS8 B3 (A9 _) B17 B3z B86
def B19:B4t→Vm.St
 | .m xs f h i=>⟨[(0,.o 0 1),(6,.i .i64 f),(7,.i .i64 0),(8,.i .i64 h),(10,.i .i64 i)],(.n (some (.row 22 1 xs false false)) .e .e),[0],1,some []⟩
def C2r (R:Type) (kx:Exit→Vm.St→Option R):C5x→Option R
 | .o xs f h i=>kx (.exit 2) ⟨[(0,.o 0 1),(6,.i .i64 f),(7,.i .i64 0),(8,.i .i64 h),(10,.i .i64 i)],(.n (some (.row 22 1 xs false false)) .e .e),[0],65536,some []⟩
def A92:Vm.St→Option B4t
 | ⟨[(0,.o 0 1),(6,.i .i64 f),(7,.i .i64 0),(8,.i .i64 h),(10,.i .i64 i)],(.n (some (.row 22 1 xs false false)) .e .e),[0],1,some []⟩=>some (.m xs f h i)
 | _=>none
theorem B3A (τ:Vm.St) (x:B4t) (h:A92 τ=some x):τ=B19 x:=by
 unfold A92 at h
 split at h<;>first | (cases h;rfl) | cases h
theorem B87 (R:Type) (of:Nat→Option Ob) (x:B4t) (K:Vm.St→Option R) (kx:Exit→Vm.St→Option R):E2 T K8 (fun _=>none) false FU (C3 Try.prog 65) of R (lp (A5 Try.prog 65) 1) (B19 x) (H0 1 [999999,0,6,7,8,10] 65536 K kx)=B4u R x (fun x'=>K (B19 x')) (C2r R kx):=by
 cases x with
 | m _ _ _ _=>kernel_rfl
def C3n:LS:=H5 T K8 (fun _=>none) (C3 Try.prog 65) (lp (A5 Try.prog 65) 1) 1 [999999,0,6,7,8,10] 65536 A92 B4u C2r
theorem B2a:E4 Try.prog T (C3 Try.prog 65) 1 (lp (A5 Try.prog 65) 1) C3n :=
 C5 follows E6 hK8 hS8 B3 (A9 _) B19 B3A B87
def B2b:B4v→Vm.St
 | .m xs a b l m i r=>⟨[(0,.o 0 1),(1,.i .i64 a),(2,.i .i64 b),(6,.i .i64 l),(7,.p 1 111 []),(8,.i .u64 m),(9,.i .i64 i)],(.n (some (.row 22 1 xs false false)) (.n (some (.box 111 (.i .u64 r) false)) .e .e) .e),[0],2,some []⟩
def C2s (R:Type) (kx:Exit→Vm.St→Option R):C5y→Option R
 | .o xs a b l m i r=>kx (.exit 0) ⟨[(0,.o 0 1),(1,.i .i64 a),(2,.i .i64 b),(6,.i .i64 l),(7,.p 1 111 []),(8,.i .u64 m),(9,.i .i64 i)],(.n (some (.row 22 1 xs false false)) (.n (some (.box 111 (.i .u64 r) false)) .e .e) .e),[0],64,some []⟩
def A93:Vm.St→Option B4v
 | ⟨[(0,.o 0 1),(1,.i .i64 a),(2,.i .i64 b),(6,.i .i64 l),(7,.p 1 111 []),(8,.i .u64 m),(9,.i .i64 i)],(.n (some (.row 22 1 xs false false)) (.n (some (.box 111 (.i .u64 r) false)) .e .e) .e),[0],2,some []⟩=>some (.m xs a b l m i r)
 | _=>none
theorem B3B (τ:Vm.St) (x:B4v) (h:A93 τ=some x):τ=B2b x:=by
 unfold A93 at h
 split at h<;>first | (cases h;rfl) | cases h
theorem B88 (R:Type) (of:Nat→Option Ob) (x:B4v) (K:Vm.St→Option R) (kx:Exit→Vm.St→Option R):E2 T K8 (fun _=>none) false FU (C3 Try.prog 66) of R (lp (A5 Try.prog 66) 0) (B2b x) (H0 1 [999999,0,1,2,6,7,8,9] 64 K kx)=A5Q R x (fun x'=>K (B2b x')) (C2s R kx):=by
 cases x with
 | m _ _ _ _ _ _ _=>kernel_rfl
def C3o:LS:=H5 T K8 (fun _=>none) (C3 Try.prog 66) (lp (A5 Try.prog 66) 0) 1 [999999,0,1,2,6,7,8,9] 64 A93 A5Q C2s
theorem B2c:E4 Try.prog T (C3 Try.prog 66) 1 (lp (A5 Try.prog 66) 0) C3o :=
 C5 follows E6 hK8 hS8 B3 (A9 _) B2b B3B B88
def C2t:Nat→LC:=atN 1 [(4,C3m),(8,C3n)]
theorem A7Y:J9 Try.prog T 65 C2t:=N8 1 (List.forall_mem_cons.2 ⟨B18.1,List.forall_mem_cons.2 ⟨B2a.1,fun _ h=>by cases h⟩⟩) 2 (by kernel_rfl) ⟨⟨trivial,loI (s0:=C3m) (by kernel_rfl) B18⟩,loI (s0:=C3n) (by kernel_rfl) B2a⟩
def C2u:Nat→LC:=atN 1 [(5,C3o)]
theorem A7Z:J9 Try.prog T 66 C2u:=N8 1 (List.forall_mem_cons.2 ⟨B2c.1,fun _ h=>by cases h⟩) 1 (by kernel_rfl) ⟨trivial,loI (s0:=C3o) (by kernel_rfl) B2c⟩
end Go.Proofs.Ytgnfgafiegimoaa
namespace Go.Proofs.Ytgnfgafiegimoaa
open Go.Vm
set_option maxRecDepth 100000
set_option linter.unusedVariables false
set_option linter.constructorNameAsVariable false
theorem B89 (xs:List V) (a b:Int):(V9 Try.prog T K8 C2t false FU 65).dir [.o 0 1,.i .i64 a,.i .i64 b] (ofL [.row 22 1 xs false false]) 1=C3X G9 xs a b (fun ys=>some (⟨.t [],[(0,.row 22 1 ys false false)],[0],65536⟩:G9)):=by kernel_rfl
theorem B9a:U0 Try.prog T 65 (P7 (rc2 22) gAB (W1 22 65536 (fun _=>.t []) A8e)).dir :=
 A27 (N7 follows E6 hK8 hS8 A7Y.nat A7Y.ok) (fun xs a b hg=>⟨65536,[0],by first | decide | (cases A2c _<;>decide),(B89 xs a b).trans (B6z (R:=G9) hg (fun ys=>some (⟨.t [],[(0,.row 22 1 ys false false)],[0],65536⟩:G9))),by simp⟩)
theorem B9b (xs:List V) (a b:Int):(V9 Try.prog T K8 C2u false FU 66).dir [.o 0 1,.i .i64 a,.i .i64 b] (ofL [.row 22 1 xs false false]) 1=C32 G9 xs a b (fun n ys=>some (⟨.t [],[(0,.row 22 1 ys false false)],[0],n⟩:G9)):=by kernel_rfl
theorem B9c:U0 Try.prog T 66 (P7 (rc2 22) gAB (W1 22 1024 (fun _=>.t []) A8f)).dir :=
 A27 (N7 follows E6 hK8 hS8 A7Z.nat A7Z.ok) (fun xs a b hg=>⟨bif F9 8 (B1 (b - a)) then 64 else 1,[0],by cases F9 8 (B1 (b - a))<;>decide,(B9b xs a b).trans (B6C (R:=G9) hg (fun n ys=>some (⟨.t [],[(0,.row 22 1 ys false false)],[0],n⟩:G9))),by simp⟩)
theorem C3p (xs:List V) (a b c n:Int):(V9 Try.prog T K8 (fun _ _=>none) false FU 80).dir [.o 0 1,.i .i64 a,.i .i64 b,.i .i64 c,.p 1 3 []] (ofL [.row 22 1 xs false false,.box 3 (.i .i64 n) false]) 2=meG G9 xs a b c n (fun i n=>some (⟨.i .i64 i,[(0,.row 22 1 xs false false),(1,.box 3 (.i .i64 n) false)],[1,0],2⟩:G9)):=by kernel_rfl
theorem C3q:U0 Try.prog T 80 (P7 (rcM 22 3) gMe (C3Z 22 3 2)).dir :=
 C30 (by kernel_rfl) (by kernel_rfl) (N7 follows E6 hK8 hS8 (R8 (P:=Try.prog) (T:=T) (f:=80)).nat R8.ok) (fun xs a b c n hg =>
  ⟨2,[1,0],by decide,(C3p xs a b c n).trans (C0i (R:=G9) hg (fun i n=>some (⟨.i .i64 i,[(0,.row 22 1 xs false false),(1,.box 3 (.i .i64 n) false)],[1,0],2⟩:G9))),by simp⟩)
def C3r:List (Nat×G2):=(65,trS (P7 (rc2 22) gAB (W1 22 65536 (fun _=>.t []) A8e)))::(66,trS (P7 (rc2 22) gAB (W1 22 1024 (fun _=>.t []) A8f)))::(80,trS (P7 (rcM 22 3) gMe (C3Z 22 3 2)))::C3l
theorem A6T:J0 Try.prog T C3r:=(((A6S).cons (R4 D8) (V0 D8 C3q)).cons (R4 D8) (V0 D8 B9c)).cons (R4 D8) (V0 D8 B9a)
def K9:KC:=J7 Try.prog T C3r false FU 4
theorem hK9:K9.nat:=E1 A6T 4
theorem hS9:KOK Try.prog T K9.dir:=G7 follows E6 A6T 4
theorem B9d (xs:List V) (a b:Int):(V9 Try.prog T K9 (fun _ _=>none) false FU 67).dir [.o 0 1,.i .i64 a,.i .i64 b] (ofL [.row 22 1 xs false false]) 1=C31 G9 xs a b (fun i h=>some (⟨.t [.i .i64 i,.i .i64 h],[(0,.row 22 1 xs false false)],[0],2⟩:G9)):=by kernel_rfl
theorem B9e:U0 Try.prog T 67 (P7 (rc2 22) gAb (W1 22 1024 (fun s=>.t [.i .i64 (A26 s),.i .i64 (A8l s)]) (fun s=>s.xs))).dir :=
 A27 (N7 follows E6 hK9 hS9 (R8 (P:=Try.prog) (T:=T) (f:=67)).nat R8.ok) (fun xs a b hg=>⟨2,[0],by first | decide | (cases A2c _<;>decide),(B9d xs a b).trans (B6B (R:=G9) hg (fun i h=>some (⟨.t [.i .i64 i,.i .i64 h],[(0,.row 22 1 xs false false)],[0],2⟩:G9))),by simp⟩)
def B5F:List (Nat×G2):=(67,trS (P7 (rc2 22) gAb (W1 22 1024 (fun s=>.t [.i .i64 (A26 s),.i .i64 (A8l s)]) (fun s=>s.xs))))::C3r
theorem A4s:J0 Try.prog T B5F:=(A6T).cons (R4 D8) (V0 D8 B9e)
def K10:KC:=J7 Try.prog T B5F false FU 4
theorem C6C:K10.nat:=E1 A4s 4
theorem C6D:KOK Try.prog T K10.dir:=G7 follows E6 A4s 4
end Go.Proofs.Ytgnfgafiegimoaa
namespace Go.Proofs.Ytgnfgafiegimoaa
open Go.Vm
set_option maxRecDepth 100000
set_option linter.unusedVariables false
set_option linter.constructorNameAsVariable false
def B5G:List (Nat×G2):=(51,trS (P7 (rc3 22) (gPd 0) (W1 22 1 (fun _=>.t []) A2d)))::B5F
theorem A4t:J0 Try.prog T B5G:=A4s.cons (R4 D8) (V0 D8 (B4x B6D))
def K11:KC:=J7 Try.prog T B5G false FU 4
theorem C4U:K11.nat:=E1 A4t 4
theorem C4V:KOK Try.prog T K11.dir:=G7 follows E6 A4t 4
def A6U:A1c→Vm.St
 | .m xs a b l wb wp=>⟨[(0,.o 0 1),(1,.i .i64 a),(2,.i .i64 b),(3,.i .i64 l),(8,.b wb),(9,.b wp)],(.n (some (.row 22 1 xs false false)) .e .e),[0],1,some []⟩
def B5H (R:Type) (kx:Exit→Vm.St→Option R):B0L→Option R
 | .r xs a b l wb wp=>kx (.ret) ⟨[(0,.o 0 1),(1,.i .i64 a),(2,.i .i64 b),(3,.i .i64 l),(8,.b wb),(9,.b wp)],(.n (some (.row 22 1 xs false false)) .e .e),[0],262144,some []⟩
def A6V:Vm.St→Option A1c
 | ⟨[(0,.o 0 1),(1,.i .i64 a),(2,.i .i64 b),(3,.i .i64 l),(8,.b wb),(9,.b wp)],(.n (some (.row 22 1 xs false false)) .e .e),[0],1,some []⟩=>some (.m xs a b l wb wp)
 | _=>none
theorem A94 (τ:Vm.St) (x:A1c) (h:A6V τ=some x):τ=A6U x:=by
 unfold A6V at h
 split at h<;>first | (cases h;rfl) | cases h
theorem B5I (R:Type) (of:Nat→Option Ob) (x:A1c) (K:Vm.St→Option R) (kx:Exit→Vm.St→Option R):E2 T K11 (fun _=>none) false FU (C3 Try.prog 51) of R (lp (A5 Try.prog 51) 0) (A6U x) (H0 1 [999999,0,1,2,3,8,9] 262144 K kx)=(A0O 0) R x (fun x'=>K (A6U x')) (B5H R kx):=by
 cases x with
 | m _ _ _ _ _ _=>kernel_rfl
def B5J:LS:=H5 T K11 (fun _=>none) (C3 Try.prog 51) (lp (A5 Try.prog 51) 0) 1 [999999,0,1,2,3,8,9] 262144 A6V (A0O 0) B5H
theorem A70:E4 Try.prog T (C3 Try.prog 51) 1 (lp (A5 Try.prog 51) 0) B5J :=
 C5 follows E6 C4U C4V B3 (A9 _) A6U A94 B5I
def C2v:Nat→LC:=atN 1 [(2,B5J)]
theorem A71:J9 Try.prog T 51 C2v:=N8 1 (List.forall_mem_cons.2 ⟨A70.1,fun _ h=>by cases h⟩) 1 (by kernel_rfl) ⟨trivial,loI (s0:=B5J) (by kernel_rfl) A70⟩
theorem B9f (xs:List V) (a b c:Int):(V9 Try.prog T K11 C2v false FU 51).dir [.o 0 1,.i .i64 a,.i .i64 b,.i .i64 c] (ofL [.row 22 1 xs false false]) 1=C0u 0 G9 xs a b c (fun ys=>some (⟨.t [],[(0,.row 22 1 ys false false)],[0],262144⟩:G9)):=by kernel_rfl
theorem B9g:U0 Try.prog T 51 (P7 (rc3 22) (gPd 13) (W1 22 262144 (fun _=>.t []) A2d)).dir :=
 A28 (N7 follows E6 C4U C4V A71.nat A71.ok) (fun xs a b c hg=>⟨262144,[0],by decide,(B9f xs a b c).trans (A4X (q:=0) (L:=13) (by decide) hg (fun ys=>some (⟨.t [],[(0,.row 22 1 ys false false)],[0],262144⟩:G9))),by simp⟩)
def B5K:List (Nat×G2):=(51,trS (P7 (rc3 22) (gPd 13) (W1 22 262144 (fun _=>.t []) A2d)))::B5G
theorem A4u:J0 Try.prog T B5K:=A4t.cons (R4 D8) (V0 D8 B9g)
def K12:KC:=J7 Try.prog T B5K false FU 4
theorem C4W:K12.nat:=E1 A4u 4
theorem C4X:KOK Try.prog T K12.dir:=G7 follows E6 A4u 4
def A6W:A1c→Vm.St
 | .m xs a b l wb wp=>⟨[(0,.o 0 1),(1,.i .i64 a),(2,.i .i64 b),(3,.i .i64 l),(8,.b wb),(9,.b wp)],(.n (some (.row 22 1 xs false false)) .e .e),[0],1,some []⟩
def B5L (R:Type) (kx:Exit→Vm.St→Option R):B0L→Option R
 | .r xs a b l wb wp=>kx (.ret) ⟨[(0,.o 0 1),(1,.i .i64 a),(2,.i .i64 b),(3,.i .i64 l),(8,.b wb),(9,.b wp)],(.n (some (.row 22 1 xs false false)) .e .e),[0],1048576,some []⟩
def A6X:Vm.St→Option A1c
 | ⟨[(0,.o 0 1),(1,.i .i64 a),(2,.i .i64 b),(3,.i .i64 l),(8,.b wb),(9,.b wp)],(.n (some (.row 22 1 xs false false)) .e .e),[0],1,some []⟩=>some (.m xs a b l wb wp)
 | _=>none
theorem A95 (τ:Vm.St) (x:A1c) (h:A6X τ=some x):τ=A6W x:=by
 unfold A6X at h
 split at h<;>first | (cases h;rfl) | cases h
theorem B5M (R:Type) (of:Nat→Option Ob) (x:A1c) (K:Vm.St→Option R) (kx:Exit→Vm.St→Option R):E2 T K12 (fun _=>none) false FU (C3 Try.prog 51) of R (lp (A5 Try.prog 51) 0) (A6W x) (H0 1 [999999,0,1,2,3,8,9] 1048576 K kx)=(A0O 13) R x (fun x'=>K (A6W x')) (B5L R kx):=by
 cases x with
 | m _ _ _ _ _ _=>kernel_rfl
def B5N:LS:=H5 T K12 (fun _=>none) (C3 Try.prog 51) (lp (A5 Try.prog 51) 0) 1 [999999,0,1,2,3,8,9] 1048576 A6X (A0O 13) B5L
theorem A72:E4 Try.prog T (C3 Try.prog 51) 1 (lp (A5 Try.prog 51) 0) B5N :=
 C5 follows E6 C4W C4X B3 (A9 _) A6W A95 B5M
def C2w:Nat→LC:=atN 1 [(2,B5N)]
theorem A73:J9 Try.prog T 51 C2w:=N8 1 (List.forall_mem_cons.2 ⟨A72.1,fun _ h=>by cases h⟩) 1 (by kernel_rfl) ⟨trivial,loI (s0:=B5N) (by kernel_rfl) A72⟩
theorem B9h (xs:List V) (a b c:Int):(V9 Try.prog T K12 C2w false FU 51).dir [.o 0 1,.i .i64 a,.i .i64 b,.i .i64 c] (ofL [.row 22 1 xs false false]) 1=C0u 13 G9 xs a b c (fun ys=>some (⟨.t [],[(0,.row 22 1 ys false false)],[0],1048576⟩:G9)):=by kernel_rfl
theorem B9i:U0 Try.prog T 51 (P7 (rc3 22) (gPd 26) (W1 22 1048576 (fun _=>.t []) A2d)).dir :=
 A28 (N7 follows E6 C4W C4X A73.nat A73.ok) (fun xs a b c hg=>⟨1048576,[0],by decide,(B9h xs a b c).trans (A4X (q:=13) (L:=26) (by decide) hg (fun ys=>some (⟨.t [],[(0,.row 22 1 ys false false)],[0],1048576⟩:G9))),by simp⟩)
def B5O:List (Nat×G2):=(51,trS (P7 (rc3 22) (gPd 26) (W1 22 1048576 (fun _=>.t []) A2d)))::B5K
theorem A4v:J0 Try.prog T B5O:=A4u.cons (R4 D8) (V0 D8 B9i)
def K13:KC:=J7 Try.prog T B5O false FU 4
theorem C4Y:K13.nat:=E1 A4v 4
theorem C4Z:KOK Try.prog T K13.dir:=G7 follows E6 A4v 4
def A6Y:A1c→Vm.St
 | .m xs a b l wb wp=>⟨[(0,.o 0 1),(1,.i .i64 a),(2,.i .i64 b),(3,.i .i64 l),(8,.b wb),(9,.b wp)],(.n (some (.row 22 1 xs false false)) .e .e),[0],1,some []⟩
def B5P (R:Type) (kx:Exit→Vm.St→Option R):B0L→Option R
 | .r xs a b l wb wp=>kx (.ret) ⟨[(0,.o 0 1),(1,.i .i64 a),(2,.i .i64 b),(3,.i .i64 l),(8,.b wb),(9,.b wp)],(.n (some (.row 22 1 xs false false)) .e .e),[0],4194304,some []⟩
def A6Z:Vm.St→Option A1c
 | ⟨[(0,.o 0 1),(1,.i .i64 a),(2,.i .i64 b),(3,.i .i64 l),(8,.b wb),(9,.b wp)],(.n (some (.row 22 1 xs false false)) .e .e),[0],1,some []⟩=>some (.m xs a b l wb wp)
 | _=>none
theorem A96 (τ:Vm.St) (x:A1c) (h:A6Z τ=some x):τ=A6Y x:=by
 unfold A6Z at h
 split at h<;>first | (cases h;rfl) | cases h
theorem B5Q (R:Type) (of:Nat→Option Ob) (x:A1c) (K:Vm.St→Option R) (kx:Exit→Vm.St→Option R):E2 T K13 (fun _=>none) false FU (C3 Try.prog 51) of R (lp (A5 Try.prog 51) 0) (A6Y x) (H0 1 [999999,0,1,2,3,8,9] 4194304 K kx)=(A0O 26) R x (fun x'=>K (A6Y x')) (B5P R kx):=by
 cases x with
 | m _ _ _ _ _ _=>kernel_rfl
def B5R:LS:=H5 T K13 (fun _=>none) (C3 Try.prog 51) (lp (A5 Try.prog 51) 0) 1 [999999,0,1,2,3,8,9] 4194304 A6Z (A0O 26) B5P
theorem A74:E4 Try.prog T (C3 Try.prog 51) 1 (lp (A5 Try.prog 51) 0) B5R :=
 C5 follows E6 C4Y C4Z B3 (A9 _) A6Y A96 B5Q
def C2x:Nat→LC:=atN 1 [(2,B5R)]
theorem A75:J9 Try.prog T 51 C2x:=N8 1 (List.forall_mem_cons.2 ⟨A74.1,fun _ h=>by cases h⟩) 1 (by kernel_rfl) ⟨trivial,loI (s0:=B5R) (by kernel_rfl) A74⟩
theorem B9j (xs:List V) (a b c:Int):(V9 Try.prog T K13 C2x false FU 51).dir [.o 0 1,.i .i64 a,.i .i64 b,.i .i64 c] (ofL [.row 22 1 xs false false]) 1=C0u 26 G9 xs a b c (fun ys=>some (⟨.t [],[(0,.row 22 1 ys false false)],[0],4194304⟩:G9)):=by kernel_rfl
theorem B9k:U0 Try.prog T 51 (P7 (rc3 22) (gPd 52) (W1 22 4194304 (fun _=>.t []) A2d)).dir :=
 A28 (N7 follows E6 C4Y C4Z A75.nat A75.ok) (fun xs a b c hg=>⟨4194304,[0],by decide,(B9j xs a b c).trans (A4X (q:=26) (L:=52) (by decide) hg (fun ys=>some (⟨.t [],[(0,.row 22 1 ys false false)],[0],4194304⟩:G9))),by simp⟩)
def B5S:List (Nat×G2):=(51,trS (P7 (rc3 22) (gPd 52) (W1 22 4194304 (fun _=>.t []) A2d)))::B5O
theorem A4w:J0 Try.prog T B5S:=A4v.cons (R4 D8) (V0 D8 B9k)
def K14:KC:=J7 Try.prog T B5S false FU 4
theorem C40:K14.nat:=E1 A4w 4
theorem C41:KOK Try.prog T K14.dir:=G7 follows E6 A4w 4
end Go.Proofs.Ytgnfgafiegimoaa
namespace Go.Proofs.Ytgnfgafiegimoaa
open Go.Vm
set_option maxRecDepth 100000
set_option linter.unusedVariables false
set_option linter.constructorNameAsVariable false
def B2d:B4y→Vm.St
 | .m xs ys zs x b s n i q j=>⟨[(0,.v 29 (.l xs)),(2,.i .u32 0),(4,.i .u32 x),(5,.i .i64 b),(6,.i .i64 s),(9,.v 29 (.l ys)),(10,.i .i64 n),(11,.i .i64 i),(15,.v 29 (.l zs)),(16,.i .i64 q),(17,.i .i64 j)],.e,[],0,some []⟩
def C2y (R:Type) (kx:Exit→Vm.St→Option R):C33→Option R
 | .o xs ys zs x b s n i q j=>kx (.exit 2) ⟨[(0,.v 29 (.l xs)),(2,.i .u32 0),(4,.i .u32 x),(5,.i .i64 b),(6,.i .i64 s),(9,.v 29 (.l ys)),(10,.i .i64 n),(11,.i .i64 i),(15,.v 29 (.l zs)),(16,.i .i64 q),(17,.i .i64 j)],.e,[],64,some []⟩
def A97:Vm.St→Option B4y
 | ⟨[(0,.v 29 (.l xs)),(2,.i .u32 0),(4,.i .u32 x),(5,.i .i64 b),(6,.i .i64 s),(9,.v 29 (.l ys)),(10,.i .i64 n),(11,.i .i64 i),(15,.v 29 (.l zs)),(16,.i .i64 q),(17,.i .i64 j)],.e,[],0,some []⟩=>some (.m xs ys zs x b s n i q j)
 | _=>none
theorem B3C (τ:Vm.St) (x:B4y) (h:A97 τ=some x):τ=B2d x:=by
 unfold A97 at h
 split at h<;>first | (cases h;rfl) | cases h
theorem B9l (R:Type) (of:Nat→Option Ob) (x:B4y) (K:Vm.St→Option R) (kx:Exit→Vm.St→Option R):E2 T K14 (fun _=>none) false FU (C3 Try.prog 9) of R (lp (A5 Try.prog 9) 1) (B2d x) (H0 0 [0,2,4,5,6,9,10,11,15,16,17] 64 K kx)=B0P R x (fun x'=>K (B2d x')) (C2y R kx):=by
 cases x with
 | m _ _ _ _ _ _ _ _ _ _=>kernel_rfl
def B3D:LS:=H5 T K14 (fun _=>none) (C3 Try.prog 9) (lp (A5 Try.prog 9) 1) 0 [0,2,4,5,6,9,10,11,15,16,17] 64 A97 B0P C2y
theorem A4a:E4 Try.prog T (C3 Try.prog 9) 0 (lp (A5 Try.prog 9) 1) B3D :=
 C5 follows E6 C40 C41 B3 (A9 _) B2d B3C B9l
def B2e:B4z→Vm.St
 | .m xs ys n i=>⟨[(0,.v 29 (.l xs)),(2,.i .u32 0),(9,.v 29 (.l ys)),(10,.i .i64 n),(11,.i .i64 i)],.e,[],0,some []⟩
def C2z (R:Type) (kx:Exit→Vm.St→Option R):C5A→Option R
 | .o xs ys n i=>kx (.exit 0) ⟨[(0,.v 29 (.l xs)),(2,.i .u32 0),(9,.v 29 (.l ys)),(10,.i .i64 n),(11,.i .i64 i)],.e,[],256,some []⟩
 | .r xs ys n i x=>kx (.ret) ⟨[(0,.v 29 (.l xs)),(2,.i .u32 x),(9,.v 29 (.l ys)),(10,.i .i64 n),(11,.i .i64 i)],.e,[],256,some []⟩
def A98:Vm.St→Option B4z
 | ⟨[(0,.v 29 (.l xs)),(2,.i .u32 0),(9,.v 29 (.l ys)),(10,.i .i64 n),(11,.i .i64 i)],.e,[],0,some []⟩=>some (.m xs ys n i)
 | _=>none
theorem B3E (τ:Vm.St) (x:B4z) (h:A98 τ=some x):τ=B2e x:=by
 unfold A98 at h
 split at h<;>first | (cases h;rfl) | cases h
theorem B9m (R:Type) (of:Nat→Option Ob) (x:B4z) (K:Vm.St→Option R) (kx:Exit→Vm.St→Option R):E2 T K14 (loT [(6,B3D)]) false FU (C3 Try.prog 9) of R (lp (A5 Try.prog 9) 0) (B2e x) (H0 0 [0,2,9,10,11] 256 K kx)=B0Q R x (fun x'=>K (B2e x')) (C2z R kx):=by
 cases x with
 | m _ _ _ _=>kernel_rfl
def C3s:LS:=H5 T K14 (loT [(6,B3D)]) (C3 Try.prog 9) (lp (A5 Try.prog 9) 0) 0 [0,2,9,10,11] 256 A98 B0Q C2z
theorem B2f:E4 Try.prog T (C3 Try.prog 9) 0 (lp (A5 Try.prog 9) 0) C3s :=
 C5 follows E6 C40 C41 (A08 (List.forall_mem_cons.2 ⟨A4a.1,fun _ h=>by cases h⟩)) (R9 1 (by kernel_rfl) ⟨trivial,loI (s0:=B3D) (by kernel_rfl) ((show lp (lp (A5 Try.prog 9) 0) 0=lp (A5 Try.prog 9) 1 from by kernel_rfl) ▸ A4a)⟩) B2e B3E B9m
def B9n:Nat→LC:=atN 0 [(2,C3s),(6,B3D)]
theorem B9o:J9 Try.prog T 9 B9n:=N8 0 (List.forall_mem_cons.2 ⟨B2f.1,List.forall_mem_cons.2 ⟨A4a.1,fun _ h=>by cases h⟩⟩) 2 (by kernel_rfl) ⟨⟨trivial,loI (s0:=C3s) (by kernel_rfl) B2f⟩,loI (s0:=B3D) (by kernel_rfl) A4a⟩
theorem C3t (xs:List V):M0 Try.prog T K14 B9n false FU 9 (List Rs) (A0e T [29] [.l xs]) (fun _=>none) 0 (fun out=>A1E T true [.d 22] out)=C36 22 xs:=by kernel_rfl
theorem B9p  : M0 Try.prog T K14 B9n false FU 9 (List Rs) (A0e T [29] [.n]) (fun _=>none) 0 (fun out=>A1E T true [.d 22] out)=some [.d 22 (.i 0)]:=by kernel_rfl
def A59:List (Nat×G2):=(9,V2 T true [29] (gF mdg (mdr 22)))::B5S
theorem A4x:J0 Try.prog T A59:=by
 refine A10 (sh:=true) (rk:=[.d 22]) (d:=4) (fu:=FU) (Lo:=B9n) (ds:=[.slice (.int .u32)]) follows E6 A4w (by kernel_rfl) B9o 40 (by kernel_rfl) (fun xs hd hg=>?_)
 obtain ⟨a,rfl,ha⟩:=B2F hd
 rcases B0S ha with rfl | ⟨zs,rfl⟩
 ·exact B9p
 ·have hl:zs.length≤50:=by
   have:=C6Q (show Nat.ble (iv zs).length 50=true from hg)
   rwa [R0] at this
  refine (C3t (iv zs)).trans ?_
  rw [B6K _ hl]
  show _=some [Rs.d 22 (V.i (A7j (viL (V.l (iv zs)))))]
  rw [B6L]
def K15:KC:=J7 Try.prog T A59 false FU 4
theorem C6E:K15.nat:=E1 A4x 4
theorem C6F:KOK Try.prog T K15.dir:=G7 follows E6 A4x 4
def MP (k:Nat):Prop:=∀ f:Nat→Int,M0 Try.prog T (J7 Try.prog T A59 false FU 10) (fun _ _=>none) false FU 8 (List Rs) (A0e T [29] [.l (lsI k f)]) (fun _=>none) 0 (fun out=>A1E T true [.d 22] out)=mdG 22 (lsI k f)
theorem mp1:MP 1:=by unfold MP;intro f;kernel_rfl
theorem mp2:MP 2:=by unfold MP;intro f;kernel_rfl
theorem mp3:MP 3:=by unfold MP;intro f;kernel_rfl
theorem mp4:MP 4:=by unfold MP;intro f;kernel_rfl
theorem mp5:MP 5:=by unfold MP;intro f;kernel_rfl
theorem mp6:MP 6:=by unfold MP;intro f;kernel_rfl
theorem mp7:MP 7:=by unfold MP;intro f;kernel_rfl
theorem mp8:MP 8:=by unfold MP;intro f;kernel_rfl
theorem mp9:MP 9:=by unfold MP;intro f;kernel_rfl
theorem C5U:MP 10:=by unfold MP;intro f;kernel_rfl
theorem C5V:MP 11:=by unfold MP;intro f;kernel_rfl
theorem C5W:MP 12:=by unfold MP;intro f;kernel_rfl
theorem C5X:MP 13:=by unfold MP;intro f;kernel_rfl
theorem C5Y:MP 14:=by unfold MP;intro f;kernel_rfl
theorem C5Z:MP 15:=by unfold MP;intro f;kernel_rfl
theorem C50:MP 16:=by unfold MP;intro f;kernel_rfl
theorem C51:MP 17:=by unfold MP;intro f;kernel_rfl
theorem C52:MP 18:=by unfold MP;intro f;kernel_rfl
theorem C53:MP 19:=by unfold MP;intro f;kernel_rfl
theorem C54:MP 20:=by unfold MP;intro f;kernel_rfl
theorem C55:MP 21:=by unfold MP;intro f;kernel_rfl
theorem C56:MP 22:=by unfold MP;intro f;kernel_rfl
theorem C57:MP 23:=by unfold MP;intro f;kernel_rfl
theorem C58:MP 24:=by unfold MP;intro f;kernel_rfl
theorem C59:MP 25:=by unfold MP;intro f;kernel_rfl
theorem C6a:MP 26:=by unfold MP;intro f;kernel_rfl
theorem C6b:MP 27:=by unfold MP;intro f;kernel_rfl
theorem C6c:MP 28:=by unfold MP;intro f;kernel_rfl
theorem C6d:MP 29:=by unfold MP;intro f;kernel_rfl
theorem C6e:MP 30:=by unfold MP;intro f;kernel_rfl
theorem C6f:MP 31:=by unfold MP;intro f;kernel_rfl
theorem C6g:MP 32:=by unfold MP;intro f;kernel_rfl
theorem C6h:MP 33:=by unfold MP;intro f;kernel_rfl
theorem C6i:MP 34:=by unfold MP;intro f;kernel_rfl
theorem C6j:MP 35:=by unfold MP;intro f;kernel_rfl
theorem C6k:MP 36:=by unfold MP;intro f;kernel_rfl
theorem C6l:MP 37:=by unfold MP;intro f;kernel_rfl
theorem C6m:MP 38:=by unfold MP;intro f;kernel_rfl
theorem C6n:MP 39:=by unfold MP;intro f;kernel_rfl
theorem C6o:MP 40:=by unfold MP;intro f;kernel_rfl
theorem C6p:MP 41:=by unfold MP;intro f;kernel_rfl
theorem C6q:MP 42:=by unfold MP;intro f;kernel_rfl
theorem C6r:MP 43:=by unfold MP;intro f;kernel_rfl
theorem C6s:MP 44:=by unfold MP;intro f;kernel_rfl
theorem C6t:MP 45:=by unfold MP;intro f;kernel_rfl
theorem C6u:MP 46:=by unfold MP;intro f;kernel_rfl
theorem C6v:MP 47:=by unfold MP;intro f;kernel_rfl
theorem C6w:MP 48:=by unfold MP;intro f;kernel_rfl
theorem C6x:MP 49:=by unfold MP;intro f;kernel_rfl
theorem C6y:MP 50:=by unfold MP;intro f;kernel_rfl
theorem B9q:M0 Try.prog T (J7 Try.prog T A59 false FU 10) (fun _ _=>none) false FU 8 (List Rs) (A0e T [29] [.l []]) (fun _=>none) 0 (fun out=>A1E T true [.d 22] out)=some [.d 22 (.i 0)]:=by kernel_rfl
theorem B9r:M0 Try.prog T (J7 Try.prog T A59 false FU 10) (fun _ _=>none) false FU 8 (List Rs) (A0e T [29] [.n]) (fun _=>none) 0 (fun out=>A1E T true [.d 22] out)=some [.d 22 (.i 0)]:=by kernel_rfl
theorem C3u (k:Nat) (h1:1≤k) (h:k≤50):MP k:=by
 rcases Nat.eq_or_lt_of_le h with rfl | h
 ·exact C6y
 have h:=Nat.le_of_lt_succ h
 rcases Nat.eq_or_lt_of_le h with rfl | h
 ·exact C6x
 have h:=Nat.le_of_lt_succ h
 rcases Nat.eq_or_lt_of_le h with rfl | h
 ·exact C6w
 have h:=Nat.le_of_lt_succ h
 rcases Nat.eq_or_lt_of_le h with rfl | h
 ·exact C6v
 have h:=Nat.le_of_lt_succ h
 rcases Nat.eq_or_lt_of_le h with rfl | h
 ·exact C6u
 have h:=Nat.le_of_lt_succ h
 rcases Nat.eq_or_lt_of_le h with rfl | h
 ·exact C6t
 have h:=Nat.le_of_lt_succ h
 rcases Nat.eq_or_lt_of_le h with rfl | h
 ·exact C6s
 have h:=Nat.le_of_lt_succ h
 rcases Nat.eq_or_lt_of_le h with rfl | h
 ·exact C6r
 have h:=Nat.le_of_lt_succ h
 rcases Nat.eq_or_lt_of_le h with rfl | h
 ·exact C6q
 have h:=Nat.le_of_lt_succ h
 rcases Nat.eq_or_lt_of_le h with rfl | h
 ·exact C6p
 have h:=Nat.le_of_lt_succ h
 rcases Nat.eq_or_lt_of_le h with rfl | h
 ·exact C6o
 have h:=Nat.le_of_lt_succ h
 rcases Nat.eq_or_lt_of_le h with rfl | h
 ·exact C6n
 have h:=Nat.le_of_lt_succ h
 rcases Nat.eq_or_lt_of_le h with rfl | h
 ·exact C6m
 have h:=Nat.le_of_lt_succ h
 rcases Nat.eq_or_lt_of_le h with rfl | h
 ·exact C6l
 have h:=Nat.le_of_lt_succ h
 rcases Nat.eq_or_lt_of_le h with rfl | h
 ·exact C6k
 have h:=Nat.le_of_lt_succ h
 rcases Nat.eq_or_lt_of_le h with rfl | h
 ·exact C6j
 have h:=Nat.le_of_lt_succ h
 rcases Nat.eq_or_lt_of_le h with rfl | h
 ·exact C6i
 have h:=Nat.le_of_lt_succ h
 rcases Nat.eq_or_lt_of_le h with rfl | h
 ·exact C6h
 have h:=Nat.le_of_lt_succ h
 rcases Nat.eq_or_lt_of_le h with rfl | h
 ·exact C6g
 have h:=Nat.le_of_lt_succ h
 rcases Nat.eq_or_lt_of_le h with rfl | h
 ·exact C6f
 have h:=Nat.le_of_lt_succ h
 rcases Nat.eq_or_lt_of_le h with rfl | h
 ·exact C6e
 have h:=Nat.le_of_lt_succ h
 rcases Nat.eq_or_lt_of_le h with rfl | h
 ·exact C6d
 have h:=Nat.le_of_lt_succ h
 rcases Nat.eq_or_lt_of_le h with rfl | h
 ·exact C6c
 have h:=Nat.le_of_lt_succ h
 rcases Nat.eq_or_lt_of_le h with rfl | h
 ·exact C6b
 have h:=Nat.le_of_lt_succ h
 rcases Nat.eq_or_lt_of_le h with rfl | h
 ·exact C6a
 have h:=Nat.le_of_lt_succ h
 rcases Nat.eq_or_lt_of_le h with rfl | h
 ·exact C59
 have h:=Nat.le_of_lt_succ h
 rcases Nat.eq_or_lt_of_le h with rfl | h
 ·exact C58
 have h:=Nat.le_of_lt_succ h
 rcases Nat.eq_or_lt_of_le h with rfl | h
 ·exact C57
 have h:=Nat.le_of_lt_succ h
 rcases Nat.eq_or_lt_of_le h with rfl | h
 ·exact C56
 have h:=Nat.le_of_lt_succ h
 rcases Nat.eq_or_lt_of_le h with rfl | h
 ·exact C55
 have h:=Nat.le_of_lt_succ h
 rcases Nat.eq_or_lt_of_le h with rfl | h
 ·exact C54
 have h:=Nat.le_of_lt_succ h
 rcases Nat.eq_or_lt_of_le h with rfl | h
 ·exact C53
 have h:=Nat.le_of_lt_succ h
 rcases Nat.eq_or_lt_of_le h with rfl | h
 ·exact C52
 have h:=Nat.le_of_lt_succ h
 rcases Nat.eq_or_lt_of_le h with rfl | h
 ·exact C51
 have h:=Nat.le_of_lt_succ h
 rcases Nat.eq_or_lt_of_le h with rfl | h
 ·exact C50
 have h:=Nat.le_of_lt_succ h
 rcases Nat.eq_or_lt_of_le h with rfl | h
 ·exact C5Z
 have h:=Nat.le_of_lt_succ h
 rcases Nat.eq_or_lt_of_le h with rfl | h
 ·exact C5Y
 have h:=Nat.le_of_lt_succ h
 rcases Nat.eq_or_lt_of_le h with rfl | h
 ·exact C5X
 have h:=Nat.le_of_lt_succ h
 rcases Nat.eq_or_lt_of_le h with rfl | h
 ·exact C5W
 have h:=Nat.le_of_lt_succ h
 rcases Nat.eq_or_lt_of_le h with rfl | h
 ·exact C5V
 have h:=Nat.le_of_lt_succ h
 rcases Nat.eq_or_lt_of_le h with rfl | h
 ·exact C5U
 have h:=Nat.le_of_lt_succ h
 rcases Nat.eq_or_lt_of_le h with rfl | h
 ·exact mp9
 have h:=Nat.le_of_lt_succ h
 rcases Nat.eq_or_lt_of_le h with rfl | h
 ·exact mp8
 have h:=Nat.le_of_lt_succ h
 rcases Nat.eq_or_lt_of_le h with rfl | h
 ·exact mp7
 have h:=Nat.le_of_lt_succ h
 rcases Nat.eq_or_lt_of_le h with rfl | h
 ·exact mp6
 have h:=Nat.le_of_lt_succ h
 rcases Nat.eq_or_lt_of_le h with rfl | h
 ·exact mp5
 have h:=Nat.le_of_lt_succ h
 rcases Nat.eq_or_lt_of_le h with rfl | h
 ·exact mp4
 have h:=Nat.le_of_lt_succ h
 rcases Nat.eq_or_lt_of_le h with rfl | h
 ·exact mp3
 have h:=Nat.le_of_lt_succ h
 rcases Nat.eq_or_lt_of_le h with rfl | h
 ·exact mp2
 have h:=Nat.le_of_lt_succ h
 rcases Nat.eq_or_lt_of_le h with rfl | h
 ·exact mp1
 have h:=Nat.le_of_lt_succ h
 omega
def B5T:List (Nat×G2):=(8,V2 T true [29] (gF mdg (mdr 22)))::A59
theorem A4y:J0 Try.prog T B5T:=by
 refine A10 (sh:=true) (rk:=[.d 22]) (d:=10) (fu:=FU) (Lo:=(fun _ _=>none)) (ds:=[.slice (.int .u32)]) follows E6 A4x (by kernel_rfl) R8 40 (by kernel_rfl) (fun xs hd hg=>?_)
 obtain ⟨a,rfl,ha⟩:=B2F hd
 rcases B0S ha with rfl | ⟨zs,rfl⟩
 ·exact B9r
 ·have hl:zs.length≤50:=by
   have:=C6Q (show Nat.ble (iv zs).length 50=true from hg)
   rwa [R0] at this
  show _=some [Rs.d 22 (V.i (A7j (viL (V.l (iv zs)))))]
  rw [B6L]
  by_cases h0:zs=[]
  ·subst h0
   exact B9q
  ·rw [← C0z 22 h0 hl,C2B zs]
   exact C3u zs.length (List.length_pos_iff.2 h0) hl (fun i=>zs.getD i 0)
def K16:KC:=J7 Try.prog T B5T false FU 4
theorem C6G:K16.nat:=E1 A4y 4
theorem C6H:KOK Try.prog T K16.dir:=G7 follows E6 A4y 4
end Go.Proofs.Ytgnfgafiegimoaa
namespace Go.Proofs.Ytgnfgafiegimoaa
open Go.Vm
set_option maxRecDepth 100000
set_option linter.unusedVariables false
set_option linter.constructorNameAsVariable false
def A76:List (Nat×G2):=(5,A9J)::B5T
theorem A1A:J0 Try.prog T A76:=A4y.cons A9K C4T
def K17:KC:=J7 Try.prog T A76 false FU 4
theorem C6z:K17.nat:=E1 A1A 4
theorem C6A:KOK Try.prog T K17.dir:=G7 follows E6 A1A 4
def B2g:B4B→Vm.St
 | .m xs zs ys q n i=>⟨[(0,.v 29 (.l xs)),(2,.b false),(3,.o 0 1),(18,.v 29 (.l ys)),(19,.i .i64 n),(20,.i .i64 i)],(.n (some (.row 22 1 zs q true)) .e .e),[],1,some []⟩
def C2A (R:Type) (kx:Exit→Vm.St→Option R):C5B→Option R
 | .o xs zs ys q n i=>kx (.exit 0) ⟨[(0,.v 29 (.l xs)),(2,.b false),(3,.o 0 1),(18,.v 29 (.l ys)),(19,.i .i64 n),(20,.i .i64 i)],(.n (some (.row 22 1 zs q true)) .e .e),[],10000000,some []⟩
 | .r xs zs ys q n i=>kx (.ret) ⟨[(0,.v 29 (.l xs)),(2,.b false),(3,.o 0 1),(18,.v 29 (.l ys)),(19,.i .i64 n),(20,.i .i64 i)],(.n (some (.row 22 1 zs q true)) .e .e),[],10000000,some []⟩
def A99:Vm.St→Option B4B
 | ⟨[(0,.v 29 (.l xs)),(2,.b false),(3,.o 0 1),(18,.v 29 (.l ys)),(19,.i .i64 n),(20,.i .i64 i)],(.n (some (.row 22 1 zs q true)) .e .e),[],1,some []⟩=>some (.m xs zs ys q n i)
 | _=>none
theorem B3F (τ:Vm.St) (x:B4B) (h:A99 τ=some x):τ=B2g x:=by
 unfold A99 at h
 split at h<;>first | (cases h;rfl) | cases h
theorem B9s (R:Type) (of:Nat→Option Ob) (x:B4B) (K:Vm.St→Option R) (kx:Exit→Vm.St→Option R):E2 T K17 (fun _=>none) false FU (C3 Try.prog 4) of R (lp (A5 Try.prog 4) 0) (B2g x) (H0 0 [999999,0,2,3,18,19,20] 10000000 K kx)=B0T R x (fun x'=>K (B2g x')) (C2A R kx):=by
 cases x with
 | m _ _ _ _ _ _=>kernel_rfl
def C3v:LS:=H5 T K17 (fun _=>none) (C3 Try.prog 4) (lp (A5 Try.prog 4) 0) 0 [999999,0,2,3,18,19,20] 10000000 A99 B0T C2A
theorem B2h:E4 Try.prog T (C3 Try.prog 4) 0 (lp (A5 Try.prog 4) 0) C3v :=
 C5 follows E6 C6z C6A B3 (A9 _) B2g B3F B9s
def B0a:Nat→LC:=atN 0 [(9,C3v)]
theorem B9t:J9 Try.prog T 4 B0a:=N8 0 (List.forall_mem_cons.2 ⟨B2h.1,fun _ h=>by cases h⟩) 1 (by kernel_rfl) ⟨trivial,loI (s0:=C3v) (by kernel_rfl) B2h⟩
theorem B9u (xs:List V):M0 Try.prog T K17 B0a false FU 4 Unit (A0e T [29] [.l xs]) (fun _=>none) 0 A6k=C37 22 xs:=by kernel_rfl
theorem B5U:M0 Try.prog T K17 B0a false FU 4 Unit (A0e T [29] [.n]) (fun _=>none) 0 A6k=some ():=by kernel_rfl
theorem law_run (xs:List V) (hd:D.hasL [.slice (.int .u32)] xs) (hm:D.smL [.slice (.int .u32)] xs):M0 Try.prog T (J7 Try.prog T A76 false FU 4) B0a false FU 4 Unit (A0e T [29] xs) (fun _=>none) 0 A6k=some ():=by
 obtain ⟨a,rfl,ha⟩:=B2F hd
 rcases B0S ha with rfl | ⟨zs,rfl⟩
 ·exact B5U
 ·refine (B9u (iv zs)).trans (B6M 22 ?_)
  exact C38 hm
theorem B0b:J9 Try.prog T 4 B0a:=B9t
theorem law_nat:(M0 Try.prog T (J7 Try.prog T A76 false FU 4) B0a false FU 4).nat:=A3f (E1 A1A 4) B0b.nat
theorem law_ok:H6 Try.prog T 4 (M0 Try.prog T (J7 Try.prog T A76 false FU 4) B0a false FU 4).dir:=A4J follows E6 (E1 A1A 4) (G7 follows E6 A1A 4) B0b.nat B0b.ok
end Go.Proofs.Ytgnfgafiegimoaa
end
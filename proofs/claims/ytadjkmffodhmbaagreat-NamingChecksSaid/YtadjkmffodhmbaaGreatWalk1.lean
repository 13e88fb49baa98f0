/- What functions compute, and the law run. -/
import Derived.Test.YtadjkmffodhmbaaGreatTy
import Derived.Test.YtadjkmffodhmbaaGreatVm9
import Derived.Test.YtadjkmffodhmbaaGreatVm11
import Derived.Test.YtadjkmffodhmbaaGreatVm12
import Derived.Test.YtadjkmffodhmbaaGreatVm10
import Derived.Shelf.SlIter.Sorted
import Derived.Shelf.SortM.Plain
import Derived.Shelf.SortM.SortNone
set_option linter.constructorNameAsVariable false
set_option linter.unusedVariables false
set_option linter.unusedSimpArgs false
noncomputable section
namespace Go.Proofs.YtadjkmffodhmbaaGreat
open Go.Vm
set_option maxRecDepth 100000
set_option linter.unusedVariables false
def C7c : List (Nat × E7) := []
theorem A8L : D6 Tryz.prog T C7c := B4w
def K1 : KC := F5 Tryz.prog T C7c false FU 4
theorem hK1 : K1.nat := A9 A8L 4
theorem hS1 : X2 Tryz.prog T K1.dir := B6 follows B9 A8L 4
def B20 : B4z → Vm.St
 | .m x z i w => ⟨[(0, .v 37 x), (2, .p 0 183 []), (3, .p 1 183 []), (8, .i .i64 i)], (.n (some (.box 183 (.v 183 z) false)) (.n (some (.box 183 (.v 183 w) false)) .e .e) .e), [], 2, some []⟩
def C4S (R : Type) (kx : Exit → Vm.St → Option R) : C6R → Option R
 | .o x z i w => kx (.exit 0) ⟨[(0, .v 37 x), (2, .p 0 183 []), (3, .p 1 183 []), (8, .i .i64 i)], (.n (some (.box 183 (.v 183 z) false)) (.n (some (.box 183 (.v 183 w) false)) .e .e) .e), [], 16, some []⟩
def B1D : Vm.St → Option B4z
 | ⟨[(0, .v 37 x), (2, .p 0 183 []), (3, .p 1 183 []), (8, .i .i64 i)], (.n (some (.box 183 (.v 183 z) false)) (.n (some (.box 183 (.v 183 w) false)) .e .e) .e), [], 2, some []⟩ => some (.m x z i w)
 | _ => none
theorem B47 (τ : Vm.St) (x : B4z) (h : B1D τ = some x) : τ = B20 x := by
 unfold B1D at h
 split at h <;> first | (cases h; rfl) | cases h
theorem C2R (R : Type) (of : Nat → Option Ob) (x : B4z) (K : Vm.St → Option R) (kx : Exit → Vm.St → Option R) : E5 T K1 (fun _ => none) false FU (C4 Tryz.prog 119) of R (lp (A5 Tryz.prog 119) 0) (B20 x) (H3 0 [0, 2, 3, 8] 16 K kx) = B7C R x (fun x' => K (B20 x')) (C4S R kx) := by
 cases x with
 | m _ _ _ _ => kernel_rfl
def C7d : LS := H5 T K1 (fun _ => none) (C4 Tryz.prog 119) (lp (A5 Tryz.prog 119) 0) 0 [0, 2, 3, 8] 16 B1D B7C C4S
theorem B21 : E4 Tryz.prog T (C4 Tryz.prog 119) 0 (lp (A5 Tryz.prog 119) 0) C7d :=
 C3 follows B9 hK1 hS1 B2 (A7 _) B20 B47 C2R
def B22 : B4A → Vm.St
 | .m z i w => ⟨[(2, .p 0 183 []), (3, .p 1 183 []), (5, .i .i64 i)], (.n (some (.box 183 (.v 183 z) false)) (.n (some (.box 183 (.v 183 w) false)) .e .e) .e), [], 2, some []⟩
def C4T (R : Type) (kx : Exit → Vm.St → Option R) : C6S → Option R
 | .o z i w => kx (.exit 2) ⟨[(2, .p 0 183 []), (3, .p 1 183 []), (5, .i .i64 i)], (.n (some (.box 183 (.v 183 z) false)) (.n (some (.box 183 (.v 183 w) false)) .e .e) .e), [], 16, some []⟩
def B1E : Vm.St → Option B4A
 | ⟨[(2, .p 0 183 []), (3, .p 1 183 []), (5, .i .i64 i)], (.n (some (.box 183 (.v 183 z) false)) (.n (some (.box 183 (.v 183 w) false)) .e .e) .e), [], 2, some []⟩ => some (.m z i w)
 | _ => none
theorem B48 (τ : Vm.St) (x : B4A) (h : B1E τ = some x) : τ = B22 x := by
 unfold B1E at h
 split at h <;> first | (cases h; rfl) | cases h
theorem C2S (R : Type) (of : Nat → Option Ob) (x : B4A) (K : Vm.St → Option R) (kx : Exit → Vm.St → Option R) : E5 T K1 (fun _ => none) false FU (C4 Tryz.prog 119) of R (lp (A5 Tryz.prog 119) 1) (B22 x) (H3 0 [2, 3, 5] 16 K kx) = B4B R x (fun x' => K (B22 x')) (C4T R kx) := by
 cases x with
 | m _ _ _ => kernel_rfl
def C7e : LS := H5 T K1 (fun _ => none) (C4 Tryz.prog 119) (lp (A5 Tryz.prog 119) 1) 0 [2, 3, 5] 16 B1E B4B C4T
theorem B23 : E4 Tryz.prog T (C4 Tryz.prog 119) 0 (lp (A5 Tryz.prog 119) 1) C7e :=
 C3 follows B9 hK1 hS1 B2 (A7 _) B22 B48 C2S
def C7f : Nat → LC := atN 0 [(3, C7d), (8, C7e)]
theorem C2T : G7 Tryz.prog T 119 C7f := D3 0 (List.forall_mem_cons.2 ⟨B21.1, List.forall_mem_cons.2 ⟨B23.1, fun _ h => by cases h⟩⟩) 2 (by kernel_rfl) ⟨⟨trivial, loI (s0 := C7d) (by kernel_rfl) B21⟩, loI (s0 := C7e) (by kernel_rfl) B23⟩
def Gsp : FC := fun R xs k => match xs with
 | [x] => E2 (B7C R) (A2 FU) (.m x z64 0 z64) (fun | .o _ z _ w => E2 (B4B R) (A2 FU) (.m z 16 w) (fun | .o _ _ w => k [.d 183 w]))
 | _ => none
theorem C7g (R : Type) (x : V) (k : List Rs → Option R) : D9 Tryz.prog T K1 C7f false FU 119 R (J1 T [37] [x]) (fun _ => none) 0 (fun out => ob (J8 T false [.d 183] out) k) = Gsp R [x] k := by kernel_rfl
def C7h : List (Nat × E7) := (119, G1 T false [37] (Fsp 183)) :: C7c
theorem A8M : D6 Tryz.prog T C7h := by
 refine A3k (sh := false) (rk := [.d 183]) (d := 4) (fu := FU) (Lo := C7f) (G := Gsp) follows B9 A8L (C2h 183) (by kernel_rfl) C2T (fun R xs k htv => ?_) (fun xs rs htv hrs => ?_)
 ·match xs, htv.len with
  | [x], _ => exact C7g R x k
 ·match xs, htv, htv.len with
  | [x], htv, _ =>
   obtain ⟨e, cs, hx⟩ := htv.head
   obtain ⟨bs, h1, h2⟩ := A5V (T := T) (el := 5) (kd := .u8) (by kernel_rfl) (by kernel_rfl) rfl hx
   simp only [Fsp] at hrs
   cases hl : Nat.ble 64 x.els.length with
   | false => rw [hl] at hrs; cases hrs
   | true =>
    rw [hl] at hrs
    have hl := D07 hl
    rw [h1, D05] at hl
    exact (B1m h1 (B7F h2) hl HID (fun w => some [Rs.d 183 w])).trans hrs
def K2 : KC := F5 Tryz.prog T C7h false FU 4
theorem hK2 : K2.nat := A9 A8M 4
theorem hS2 : X2 Tryz.prog T K2.dir := B6 follows B9 A8M 4
def B24 : B4C → Vm.St
 | .m s z w k x i => ⟨[(2, .p 0 172 []), (4, .p 1 172 []), (5, .p 3 183 []), (6, .p 4 183 []), (7, .p 5 172 []), (18, .i .i64 i)], (.n (some (.box 172 (.v 172 s) false)) (.n (some (.box 172 (.v 172 z) false)) (.n (some (.box 183 (.v 183 w) false)) .e .e) (.n (some (.box 172 (.v 172 x) false)) .e .e)) (.n none (.n (some (.box 183 (.v 183 k) false)) .e .e) .e)), [], 6, some []⟩
def C4U (R : Type) (kx : Exit → Vm.St → Option R) : C6T → Option R
 | .o s z w k x i => kx (.exit 0) ⟨[(2, .p 0 172 []), (4, .p 1 172 []), (5, .p 3 183 []), (6, .p 4 183 []), (7, .p 5 172 []), (18, .i .i64 i)], (.n (some (.box 172 (.v 172 s) false)) (.n (some (.box 172 (.v 172 z) false)) (.n (some (.box 183 (.v 183 w) false)) .e .e) (.n (some (.box 172 (.v 172 x) false)) .e .e)) (.n none (.n (some (.box 183 (.v 183 k) false)) .e .e) .e)), [], 16, some []⟩
def B1F : Vm.St → Option B4C
 | ⟨[(2, .p 0 172 []), (4, .p 1 172 []), (5, .p 3 183 []), (6, .p 4 183 []), (7, .p 5 172 []), (18, .i .i64 i)], (.n (some (.box 172 (.v 172 s) false)) (.n (some (.box 172 (.v 172 z) false)) (.n (some (.box 183 (.v 183 w) false)) .e .e) (.n (some (.box 172 (.v 172 x) false)) .e .e)) (.n none (.n (some (.box 183 (.v 183 k) false)) .e .e) .e)), [], 6, some []⟩ => some (.m s z w k x i)
 | _ => none
theorem B49 (τ : Vm.St) (x : B4C) (h : B1F τ = some x) : τ = B24 x := by
 unfold B1F at h
 split at h <;> first | (cases h; rfl) | cases h
theorem C2U (R : Type) (of : Nat → Option Ob) (x : B4C) (K : Vm.St → Option R) (kx : Exit → Vm.St → Option R) : E5 T K2 (fun _ => none) false FU (C4 Tryz.prog 112) of R (lp (A5 Tryz.prog 112) 0) (B24 x) (H3 0 [2, 4, 5, 6, 7, 18] 16 K kx) = B7D R x (fun x' => K (B24 x')) (C4U R kx) := by
 cases x with
 | m _ _ _ _ _ _ => kernel_rfl
def C7i : LS := H5 T K2 (fun _ => none) (C4 Tryz.prog 112) (lp (A5 Tryz.prog 112) 0) 0 [2, 4, 5, 6, 7, 18] 16 B1F B7D C4U
theorem B25 : E4 Tryz.prog T (C4 Tryz.prog 112) 0 (lp (A5 Tryz.prog 112) 0) C7i :=
 C3 follows B9 hK2 hS2 B2 (A7 _) B24 B49 C2U
def B26 : B4D → Vm.St
 | .m s z x i => ⟨[(2, .p 0 172 []), (4, .p 1 172 []), (7, .p 5 172 []), (98, .i .i64 i)], (.n (some (.box 172 (.v 172 s) false)) (.n (some (.box 172 (.v 172 z) false)) .e (.n (some (.box 172 (.v 172 x) false)) .e .e)) .e), [], 6, some []⟩
def C4V (R : Type) (kx : Exit → Vm.St → Option R) : C6U → Option R
 | .o s z x i => kx (.exit 2) ⟨[(2, .p 0 172 []), (4, .p 1 172 []), (7, .p 5 172 []), (98, .i .i64 i)], (.n (some (.box 172 (.v 172 s) false)) (.n (some (.box 172 (.v 172 z) false)) .e (.n (some (.box 172 (.v 172 x) false)) .e .e)) .e), [], 16, some []⟩
def B1G : Vm.St → Option B4D
 | ⟨[(2, .p 0 172 []), (4, .p 1 172 []), (7, .p 5 172 []), (98, .i .i64 i)], (.n (some (.box 172 (.v 172 s) false)) (.n (some (.box 172 (.v 172 z) false)) .e (.n (some (.box 172 (.v 172 x) false)) .e .e)) .e), [], 6, some []⟩ => some (.m s z x i)
 | _ => none
theorem B5a (τ : Vm.St) (x : B4D) (h : B1G τ = some x) : τ = B26 x := by
 unfold B1G at h
 split at h <;> first | (cases h; rfl) | cases h
theorem C2V (R : Type) (of : Nat → Option Ob) (x : B4D) (K : Vm.St → Option R) (kx : Exit → Vm.St → Option R) : E5 T K2 (fun _ => none) false FU (C4 Tryz.prog 112) of R (lp (A5 Tryz.prog 112) 1) (B26 x) (H3 0 [2, 4, 7, 98] 16 K kx) = B1k R x (fun x' => K (B26 x')) (C4V R kx) := by
 cases x with
 | m _ _ _ _ => kernel_rfl
def C7j : LS := H5 T K2 (fun _ => none) (C4 Tryz.prog 112) (lp (A5 Tryz.prog 112) 1) 0 [2, 4, 7, 98] 16 B1G B1k C4V
theorem B27 : E4 Tryz.prog T (C4 Tryz.prog 112) 0 (lp (A5 Tryz.prog 112) 1) C7j :=
 C3 follows B9 hK2 hS2 B2 (A7 _) B26 B5a C2V
def C7k : Nat → LC := atN 0 [(3, C7i), (11, C7j)]
theorem C2W : G7 Tryz.prog T 112 C7k := D3 0 (List.forall_mem_cons.2 ⟨B25.1, List.forall_mem_cons.2 ⟨B27.1, fun _ h => by cases h⟩⟩) 2 (by kernel_rfl) ⟨⟨trivial, loI (s0 := C7i) (by kernel_rfl) B25⟩, loI (s0 := C7j) (by kernel_rfl) B27⟩
def Gmx : FC := fun R xs k => match xs with
 | [s, b] => bif Nat.ble 64 b.els.length then E2 (B7D R) (A2 FU) (.m s z8 (spW b) A2a s 0) (fun | .o s z _ _ x _ => E2 (B1k R) (A2 FU) (.m s z x 0) (fun | .o s _ _ _ => k [.d 172 s])) else none
 | _ => none
theorem C7l (R : Type) (s b : V) (k : List Rs → Option R) : D9 Tryz.prog T K2 C7k false FU 112 R (J1 T [172, 37] [s, b]) (fun _ => none) 0 (fun out => ob (J8 T false [.d 172] out) k) = Gmx R [s, b] k := by kernel_rfl
def C7m : List (Nat × E7) := (112, G1 T false [172, 37] (Fmx 172)) :: C7h
theorem A4X : D6 Tryz.prog T C7m := by
 refine A3k (sh := false) (rk := [.d 172]) (d := 4) (fu := FU) (Lo := C7k) (G := Gmx) follows B9 A8M (C2i 172) (by kernel_rfl) C2W (fun R xs k htv => ?_) (fun xs rs htv hrs => ?_)
 ·match xs, htv.len with
  | [s, b], _ => exact C7l R s b k
 ·match xs, htv, htv.len with
  | [s, b], htv, _ =>
   obtain ⟨e, cs, hs⟩ := htv.head
   obtain ⟨e2, cs2, hx⟩ := htv.tail.head
   obtain ⟨bs, h1, h2⟩ := A5V (T := T) (el := 5) (kd := .u8) (by kernel_rfl) (by kernel_rfl) rfl hx
   obtain ⟨ns, rfl, n1, n2⟩ := C6V (T := T) (n := 8) (el := 23) (kd := .u32) (by kernel_rfl) (by kernel_rfl) rfl hs
   obtain ⟨s8, hs8, hok⟩ := C6Y n1 n2
   rw [hs8] at hrs ⊢
   simp only [Fmx] at hrs
   cases hl : Nat.ble 64 b.els.length with
   | false => rw [hl] at hrs; cases hrs
   | true =>
    rw [hl] at hrs
    simp only [Gmx, hl, cond_true]
    have hl := D07 hl
    rw [h1, D05] at hl
    exact (C2j hok h1 (B7F h2) hl HID (fun w => some [Rs.d 172 w])).trans hrs
def K3 : KC := F5 Tryz.prog T C7m false FU 4
theorem hK3 : K3.nat := A9 A4X 4
theorem hS3 : X2 Tryz.prog T K3.dir := B6 follows B9 A4X 4
end Go.Proofs.YtadjkmffodhmbaaGreat
namespace Go.Proofs.YtadjkmffodhmbaaGreat
open Go.Vm
set_option maxRecDepth 100000
set_option linter.unusedVariables false
def B28 : B3N → Vm.St
 | .m b xs => ⟨[(0, .v 37 b), (3, .o 1 1)], (.n none (.n (some (.row 5 1 xs false false)) .e .e) .e), [], 2, some []⟩
def C4W (R : Type) (kx : Exit → Vm.St → Option R) : C5R → Option R
 | .o b xs => kx (.exit 0) ⟨[(0, .v 37 b), (3, .o 1 1)], (.n none (.n (some (.row 5 1 xs false false)) .e .e) .e), [], 8, some []⟩
def B1H : Vm.St → Option B3N
 | ⟨[(0, .v 37 b), (3, .o 1 1)], (.n none (.n (some (.row 5 1 xs false false)) .e .e) .e), [], 2, some []⟩ => some (.m b xs)
 | _ => none
theorem B5b (τ : Vm.St) (x : B3N) (h : B1H τ = some x) : τ = B28 x := by
 unfold B1H at h
 split at h <;> first | (cases h; rfl) | cases h
theorem C2X (R : Type) (of : Nat → Option Ob) (x : B3N) (K : Vm.St → Option R) (kx : Exit → Vm.St → Option R) : E5 T K3 (fun _ => none) false FU (C4 Tryz.prog 87) of R (lp (A5 Tryz.prog 87) 0) (B28 x) (H3 0 [0, 3] 8 K kx) = C0U R x (fun x' => K (B28 x')) (C4W R kx) := by
 cases x with
 | m _ _ => kernel_rfl
def C7n : LS := H5 T K3 (fun _ => none) (C4 Tryz.prog 87) (lp (A5 Tryz.prog 87) 0) 0 [0, 3] 8 B1H C0U C4W
theorem B29 : E4 Tryz.prog T (C4 Tryz.prog 87) 0 (lp (A5 Tryz.prog 87) 0) C7n :=
 C3 follows B9 hK3 hS3 B2 (A7 _) B28 B5b C2X
def C7o : Nat → LC := atN 0 [(2, C7n)]
theorem C2Y : G7 Tryz.prog T 87 C7o := D3 0 (List.forall_mem_cons.2 ⟨B29.1, fun _ h => by cases h⟩) 2 (by kernel_rfl) ⟨⟨trivial, loI (s0 := C7n) (by kernel_rfl) B29⟩, loN (by kernel_rfl)⟩
theorem C7p (R : Type) (b : V) (k : List Rs → Option R) : D9 Tryz.prog T K3 C7o false FU 87 R (J1 T [37] [b]) (fun _ => none) 0 (fun out => ob (J8 T false [.r 5] out) k) = Gpd 5 R [b] k := by kernel_rfl
def C7q : List (Nat × E7) := (87, G1 T false [37] (Fpd 5)) :: C7m
theorem A8N : D6 Tryz.prog T C7q := by
 refine A3k (sh := false) (rk := [.r 5]) (d := 4) (fu := FU) (Lo := C7o) (G := Gpd 5) follows B9 A4X (C0X 5) (by kernel_rfl) C2Y (fun R xs k htv => ?_) (fun xs rs htv hrs => ?_)
 ·match xs, htv.len with
  | [b], _ => exact C7p R b k
 ·match xs, htv.len with
  | [b], _ => exact C5U 5 hrs
def K4 : KC := F5 Tryz.prog T C7q false FU 4
theorem hK4 : K4.nat := A9 A8N 4
theorem hS4 : X2 Tryz.prog T K4.dir := B6 follows B9 A8N 4
def B3a : B3O → Vm.St
 | .m z v xs kk at_ ws i => ⟨[(2, .p 0 34 []), (3, .p 1 146 []), (4, .o 2 1), (5, .p 4 147 []), (6, .i .i64 at_), (7, .o 5 1), (8, .i .i64 i)], (.n (some (.box 34 (.v 34 z) false)) (.n (some (.box 146 (.v 146 v) false)) .e (.n (some (.row 133 1 ws false false)) .e .e)) (.n (some (.row 5 1 xs false false)) (.n (some (.box 147 (.v 147 kk) false)) .e .e) .e)), [], 6, some []⟩
def C4X (R : Type) (kx : Exit → Vm.St → Option R) : B54 → Option R
 | .o z v xs kk at_ ws i => kx (.exit 2) ⟨[(2, .p 0 34 []), (3, .p 1 146 []), (4, .o 2 1), (5, .p 4 147 []), (6, .i .i64 at_), (7, .o 5 1), (8, .i .i64 i)], (.n (some (.box 34 (.v 34 z) false)) (.n (some (.box 146 (.v 146 v) false)) .e (.n (some (.row 133 1 ws false false)) .e .e)) (.n (some (.row 5 1 xs false false)) (.n (some (.box 147 (.v 147 kk) false)) .e .e) .e)), [], 16, some []⟩
def B1I : Vm.St → Option B3O
 | ⟨[(2, .p 0 34 []), (3, .p 1 146 []), (4, .o 2 1), (5, .p 4 147 []), (6, .i .i64 at_), (7, .o 5 1), (8, .i .i64 i)], (.n (some (.box 34 (.v 34 z) false)) (.n (some (.box 146 (.v 146 v) false)) .e (.n (some (.row 133 1 ws false false)) .e .e)) (.n (some (.row 5 1 xs false false)) (.n (some (.box 147 (.v 147 kk) false)) .e .e) .e)), [], 6, some []⟩ => some (.m z v xs kk at_ ws i)
 | _ => none
theorem B5c (τ : Vm.St) (x : B3O) (h : B1I τ = some x) : τ = B3a x := by
 unfold B1I at h
 split at h <;> first | (cases h; rfl) | cases h
theorem C2Z (R : Type) (of : Nat → Option Ob) (x : B3O) (K : Vm.St → Option R) (kx : Exit → Vm.St → Option R) : E5 T K4 (fun _ => none) false FU (C4 Tryz.prog 67) of R (lp (A5 Tryz.prog 67) 1) (B3a x) (H3 0 [2, 3, 4, 5, 6, 7, 8] 16 K kx) = B0E R x (fun x' => K (B3a x')) (C4X R kx) := by
 cases x with
 | m _ _ _ _ _ _ _ => kernel_rfl
def C20 : LS := H5 T K4 (fun _ => none) (C4 Tryz.prog 67) (lp (A5 Tryz.prog 67) 1) 0 [2, 3, 4, 5, 6, 7, 8] 16 B1I B0E C4X
theorem B3b : E4 Tryz.prog T (C4 Tryz.prog 67) 0 (lp (A5 Tryz.prog 67) 1) C20 :=
 C3 follows B9 hK4 hS4 B2 (A7 _) B3a B5c C2Z
def B3c : B3P → Vm.St
 | .m z v xs kk at_ ws x i => ⟨[(2, .p 0 34 []), (3, .p 1 146 []), (4, .o 2 1), (5, .p 4 147 []), (6, .i .i64 at_), (7, .o 5 1), (13, .p 16 146 []), (14, .i .i64 i)], (.n (some (.box 34 (.v 34 z) false)) (.n (some (.box 146 (.v 146 v) false)) .e (.n (some (.row 133 1 ws false false)) .e .e)) (.n (some (.row 5 1 xs false false)) (.n (some (.box 147 (.v 147 kk) false)) (.n none (.n (some (.box 146 (.v 146 x) false)) .e .e) .e) .e) .e)), [], 17, some []⟩
def C4Y (R : Type) (kx : Exit → Vm.St → Option R) : C0V → Option R
 | .o z v xs kk at_ ws x i => kx (.exit 6) ⟨[(2, .p 0 34 []), (3, .p 1 146 []), (4, .o 2 1), (5, .p 4 147 []), (6, .i .i64 at_), (7, .o 5 1), (13, .p 16 146 []), (14, .i .i64 i)], (.n (some (.box 34 (.v 34 z) false)) (.n (some (.box 146 (.v 146 v) false)) .e (.n (some (.row 133 1 ws false false)) .e .e)) (.n (some (.row 5 1 xs false false)) (.n (some (.box 147 (.v 147 kk) false)) (.n none (.n (some (.box 146 (.v 146 x) false)) .e .e) .e) .e) .e)), [], 32, some []⟩
def B1J : Vm.St → Option B3P
 | ⟨[(2, .p 0 34 []), (3, .p 1 146 []), (4, .o 2 1), (5, .p 4 147 []), (6, .i .i64 at_), (7, .o 5 1), (13, .p 16 146 []), (14, .i .i64 i)], (.n (some (.box 34 (.v 34 z) false)) (.n (some (.box 146 (.v 146 v) false)) .e (.n (some (.row 133 1 ws false false)) .e .e)) (.n (some (.row 5 1 xs false false)) (.n (some (.box 147 (.v 147 kk) false)) (.n none (.n (some (.box 146 (.v 146 x) false)) .e .e) .e) .e) .e)), [], 17, some []⟩ => some (.m z v xs kk at_ ws x i)
 | _ => none
theorem B5d (τ : Vm.St) (x : B3P) (h : B1J τ = some x) : τ = B3c x := by
 unfold B1J at h
 split at h <;> first | (cases h; rfl) | cases h
theorem C21 (R : Type) (of : Nat → Option Ob) (x : B3P) (K : Vm.St → Option R) (kx : Exit → Vm.St → Option R) : E5 T K4 (fun _ => none) false FU (C4 Tryz.prog 67) of R (lp (A5 Tryz.prog 67) 3) (B3c x) (H3 0 [2, 3, 4, 5, 6, 7, 13, 14] 32 K kx) = B55 R x (fun x' => K (B3c x')) (C4Y R kx) := by
 cases x with
 | m _ _ _ _ _ _ _ _ => kernel_rfl
def C22 : LS := H5 T K4 (fun _ => none) (C4 Tryz.prog 67) (lp (A5 Tryz.prog 67) 3) 0 [2, 3, 4, 5, 6, 7, 13, 14] 32 B1J B55 C4Y
theorem B3d : E4 Tryz.prog T (C4 Tryz.prog 67) 0 (lp (A5 Tryz.prog 67) 3) C22 :=
 C3 follows B9 hK4 hS4 B2 (A7 _) B3c B5d C21
def B3e : B3Q → Vm.St
 | .m z v xs kk at_ => ⟨[(2, .p 0 34 []), (3, .p 1 146 []), (4, .o 2 1), (5, .p 4 147 []), (6, .i .i64 at_)], (.n (some (.box 34 (.v 34 z) false)) (.n (some (.box 146 (.v 146 v) false)) .e .e) (.n (some (.row 5 1 xs false false)) (.n (some (.box 147 (.v 147 kk) false)) .e .e) .e)), [], 5, some []⟩
def C4Z (R : Type) (kx : Exit → Vm.St → Option R) : C5S → Option R
 | .o z v xs kk at_ => kx (.exit 0) ⟨[(2, .p 0 34 []), (3, .p 1 146 []), (4, .o 2 1), (5, .p 4 147 []), (6, .i .i64 at_)], (.n (some (.box 34 (.v 34 z) false)) (.n (some (.box 146 (.v 146 v) false)) .e .e) (.n (some (.row 5 1 xs false false)) (.n (some (.box 147 (.v 147 kk) false)) .e .e) .e)), [], 64, some []⟩
def B1K : Vm.St → Option B3Q
 | ⟨[(2, .p 0 34 []), (3, .p 1 146 []), (4, .o 2 1), (5, .p 4 147 []), (6, .i .i64 at_)], (.n (some (.box 34 (.v 34 z) false)) (.n (some (.box 146 (.v 146 v) false)) .e .e) (.n (some (.row 5 1 xs false false)) (.n (some (.box 147 (.v 147 kk) false)) .e .e) .e)), [], 5, some []⟩ => some (.m z v xs kk at_)
 | _ => none
theorem B5e (τ : Vm.St) (x : B3Q) (h : B1K τ = some x) : τ = B3e x := by
 unfold B1K at h
 split at h <;> first | (cases h; rfl) | cases h
theorem C23 (R : Type) (of : Nat → Option Ob) (x : B3Q) (K : Vm.St → Option R) (kx : Exit → Vm.St → Option R) : E5 T K4 (loT [(9, C20), (23, C22)]) false FU (C4 Tryz.prog 67) of R (lp (A5 Tryz.prog 67) 0) (B3e x) (H3 0 [2, 3, 4, 5, 6] 64 K kx) = C0W R x (fun x' => K (B3e x')) (C4Z R kx) := by
 cases x with
 | m _ _ _ _ _ => kernel_rfl
def C7r : LS := H5 T K4 (loT [(9, C20), (23, C22)]) (C4 Tryz.prog 67) (lp (A5 Tryz.prog 67) 0) 0 [2, 3, 4, 5, 6] 64 B1K C0W C4Z
theorem B3f : E4 Tryz.prog T (C4 Tryz.prog 67) 0 (lp (A5 Tryz.prog 67) 0) C7r :=
 C3 follows B9 hK4 hS4 (A4Q (List.forall_mem_cons.2 ⟨B3b.1, List.forall_mem_cons.2 ⟨B3d.1, fun _ h => by cases h⟩⟩)) (A1G 5 (by kernel_rfl) ⟨⟨⟨⟨⟨trivial, loI (s0 := C20) (by kernel_rfl) ((show lp (lp (A5 Tryz.prog 67) 0) 0 = lp (A5 Tryz.prog 67) 1 from by kernel_rfl) ▸ B3b)⟩, loN (by kernel_rfl)⟩, loI (s0 := C22) (by kernel_rfl) ((show lp (lp (A5 Tryz.prog 67) 0) 2 = lp (A5 Tryz.prog 67) 3 from by kernel_rfl) ▸ B3d)⟩, loN (by kernel_rfl)⟩, loN (by kernel_rfl)⟩) B3e B5e C23
def C7s : Nat → LC := atN 0 [(5, C7r)]
theorem C24 : G7 Tryz.prog T 67 C7s := D3 0 (List.forall_mem_cons.2 ⟨B3f.1, fun _ h => by cases h⟩) 8 (by kernel_rfl) ⟨⟨⟨⟨⟨⟨⟨⟨trivial, loI (s0 := C7r) (by kernel_rfl) B3f⟩, loN (by kernel_rfl)⟩, loN (by kernel_rfl)⟩, loN (by kernel_rfl)⟩, loN (by kernel_rfl)⟩, loN (by kernel_rfl)⟩, loN (by kernel_rfl)⟩, loN (by kernel_rfl)⟩
theorem C7t (R : Type) (b : V) (k : List Rs → Option R) : D9 Tryz.prog T K4 C7s false FU 67 R (J1 T [37] [b]) (fun _ => none) 0 (fun out => ob (J8 T false [.d 34] out) k) = Gsm 34 R [b] k := by kernel_rfl
def C7u : List (Nat × E7) := (67, G1 T false [37] (Fsm 34)) :: C7q
theorem A4Y : D6 Tryz.prog T C7u := by
 refine A3k (sh := false) (rk := [.d 34]) (d := 4) (fu := FU) (Lo := C7s) (G := Gsm 34) follows B9 A8N (C02 34) (by kernel_rfl) C24 (fun R xs k htv => ?_) (fun xs rs htv hrs => ?_)
 ·match xs, htv.len with
  | [b], _ => exact C7t R b k
 ·match xs, htv, htv.len with
  | [b], htv, _ =>
   obtain ⟨e, cs, hx⟩ := htv.head
   obtain ⟨bs, h1, h2⟩ := A5V (T := T) (el := 5) (kd := .u8) (by kernel_rfl) (by kernel_rfl) rfl hx
   exact C5Z 34 h1 (B7F h2) hrs
def K5 : KC := F5 Tryz.prog T C7u false FU 4
theorem hK5 : K5.nat := A9 A4Y 4
theorem hS5 : X2 Tryz.prog T K5.dir := B6 follows B9 A4Y 4
end Go.Proofs.YtadjkmffodhmbaaGreat
namespace Go.Proofs.YtadjkmffodhmbaaGreat
open Go.Vm
set_option maxRecDepth 100000
set_option linter.unusedVariables false
set_option linter.constructorNameAsVariable false
def C25 : PRn → Vm.St
 | .m l n i => ⟨[(2, .b false), (5, .v 22 l), (6, .i .i64 n), (7, .i .i64 i)], .e, [], 0, some []⟩
def C9r (R : Type) (kx : Exit → Vm.St → Option R) : QRn → Option R
 | .o l n i => kx (.exit 0) ⟨[(2, .b false), (5, .v 22 l), (6, .i .i64 n), (7, .i .i64 i)], .e, [], 64, some []⟩
 | .r l n i => kx (.ret) ⟨[(2, .b false), (5, .v 22 l), (6, .i .i64 n), (7, .i .i64 i)], .e, [], 64, some []⟩
def B8y : Vm.St → Option PRn
 | ⟨[(2, .b false), (5, .v 22 l), (6, .i .i64 n), (7, .i .i64 i)], .e, [], 0, some []⟩ => some (.m l n i)
 | _ => none
theorem B8z (τ : Vm.St) (x : PRn) (h : B8y τ = some x) : τ = C25 x := by
 unfold B8y at h
 split at h <;> first | (cases h; rfl) | cases h
theorem C7v (R : Type) (of : Nat → Option Ob) (x : PRn) (K : Vm.St → Option R) (kx : Exit → Vm.St → Option R) : E5 T K5 (fun _ => none) false FU (C4 Tryz.prog 8) of R (lp (A5 Tryz.prog 8) 0) (C25 x) (H3 0 [999999, 2, 5, 6, 7] 64 K kx) = BRn R x (fun x' => K (C25 x')) (C9r R kx) := by
 cases x with
 | m _ _ _ => kernel_rfl
def HRn : LS := H5 T K5 (fun _ => none) (C4 Tryz.prog 8) (lp (A5 Tryz.prog 8) 0) 0 [999999, 2, 5, 6, 7] 64 B8y BRn C9r
theorem B8A : E4 Tryz.prog T (C4 Tryz.prog 8) 0 (lp (A5 Tryz.prog 8) 0) HRn :=
 C3 follows B9 hK5 hS5 B2 (A7 _) C25 B8z C7v
def C7w : Nat → LC := atN 0 [(2, HRn)]
theorem C26 : G7 Tryz.prog T 8 C7w := D3 0 (List.forall_mem_cons.2 ⟨B8A.1, fun _ h => by cases h⟩) 1 (by kernel_rfl) ⟨trivial, loI (s0 := HRn) (by kernel_rfl) B8A⟩
theorem C7x (l : V) : D9 Tryz.prog T K5 C7w false FU 8 (List Rs) (J1 T [22] [l]) (fun _ => none) 0 (fun out => J8 T true [.d 4] out) = rnG 4 l := by kernel_rfl
def C7y : List (Nat × E7) := (8, G1 T true [22] (gF rng (rnr 4))) :: C7u
theorem A8O : D6 Tryz.prog T C7y := by
 refine C5 (sh := true) (rk := [.d 4]) (d := 4) (fu := FU) (Lo := C7w) (ds := [.slice A1d]) follows B9 A4Y (by kernel_rfl) C26 40 (by kernel_rfl) (fun xs hd hg => ?_)
 obtain ⟨a, rfl, ha⟩ := W4 hd
 exact (C7x a).trans (C3Y hg)
def K6 : KC := F5 Tryz.prog T C7y false FU 4
theorem hK6 : K6.nat := A9 A8O 4
theorem hS6 : X2 Tryz.prog T K6.dir := B6 follows B9 A8O 4
def C27 : PSa → Vm.St
 | .m a b n i => ⟨[(0, .v 22 a), (1, .v 22 b), (4, .b false), (12, .i .i64 n), (13, .i .i64 i)], .e, [], 0, some []⟩
def C9s (R : Type) (kx : Exit → Vm.St → Option R) : QSa → Option R
 | .o a b n i => kx (.exit 0) ⟨[(0, .v 22 a), (1, .v 22 b), (4, .b false), (12, .i .i64 n), (13, .i .i64 i)], .e, [], 64, some []⟩
 | .r a b n i => kx (.ret) ⟨[(0, .v 22 a), (1, .v 22 b), (4, .b false), (12, .i .i64 n), (13, .i .i64 i)], .e, [], 64, some []⟩
def B8B : Vm.St → Option PSa
 | ⟨[(0, .v 22 a), (1, .v 22 b), (4, .b false), (12, .i .i64 n), (13, .i .i64 i)], .e, [], 0, some []⟩ => some (.m a b n i)
 | _ => none
theorem B8C (τ : Vm.St) (x : PSa) (h : B8B τ = some x) : τ = C27 x := by
 unfold B8B at h
 split at h <;> first | (cases h; rfl) | cases h
theorem C7z (R : Type) (of : Nat → Option Ob) (x : PSa) (K : Vm.St → Option R) (kx : Exit → Vm.St → Option R) : E5 T K6 (fun _ => none) false FU (C4 Tryz.prog 15) of R (lp (A5 Tryz.prog 15) 0) (C27 x) (H3 0 [999999, 0, 1, 4, 12, 13] 64 K kx) = BSa R x (fun x' => K (C27 x')) (C9s R kx) := by
 cases x with
 | m _ _ _ _ => kernel_rfl
def HSa : LS := H5 T K6 (fun _ => none) (C4 Tryz.prog 15) (lp (A5 Tryz.prog 15) 0) 0 [999999, 0, 1, 4, 12, 13] 64 B8B BSa C9s
theorem B8D : E4 Tryz.prog T (C4 Tryz.prog 15) 0 (lp (A5 Tryz.prog 15) 0) HSa :=
 C3 follows B9 hK6 hS6 B2 (A7 _) C27 B8C C7z
def C7A : Nat → LC := atN 0 [(4, HSa)]
theorem C28 : G7 Tryz.prog T 15 C7A := D3 0 (List.forall_mem_cons.2 ⟨B8D.1, fun _ h => by cases h⟩) 1 (by kernel_rfl) ⟨trivial, loI (s0 := HSa) (by kernel_rfl) B8D⟩
theorem C7B (l m : V) : D9 Tryz.prog T K6 C7A false FU 15 (List Rs) (J1 T [22, 22] [l, m]) (fun _ => none) 0 (fun out => J8 T true [.d 4] out) = saG 4 l m := by kernel_rfl
def C7C : List (Nat × E7) := (15, G1 T true [22, 22] (gF sag (sar 4))) :: C7y
theorem A8P : D6 Tryz.prog T C7C := by
 refine C5 (sh := true) (rk := [.d 4]) (d := 4) (fu := FU) (Lo := C7A) (ds := [.slice A1d, .slice A1d]) follows B9 A8O (by kernel_rfl) C28 40 (by kernel_rfl) (fun xs hd hg => ?_)
 obtain ⟨a, b, rfl, ha, hb⟩ := Z6 hd
 exact (C7B a b).trans (C3Z hg)
def K7 : KC := F5 Tryz.prog T C7C false FU 4
theorem hK7 : K7.nat := A9 A8P 4
theorem hS7 : X2 Tryz.prog T K7.dir := B6 follows B9 A8P 4
def C29 : PSx → Vm.St
 | .m a b n i => ⟨[(0, .v 74 a), (1, .v 74 b), (4, .b false), (12, .i .i64 n), (13, .i .i64 i)], .e, [], 0, some []⟩
def C9t (R : Type) (kx : Exit → Vm.St → Option R) : QSx → Option R
 | .o a b n i => kx (.exit 0) ⟨[(0, .v 74 a), (1, .v 74 b), (4, .b false), (12, .i .i64 n), (13, .i .i64 i)], .e, [], 64, some []⟩
 | .r a b n i => kx (.ret) ⟨[(0, .v 74 a), (1, .v 74 b), (4, .b false), (12, .i .i64 n), (13, .i .i64 i)], .e, [], 64, some []⟩
def B8E : Vm.St → Option PSx
 | ⟨[(0, .v 74 a), (1, .v 74 b), (4, .b false), (12, .i .i64 n), (13, .i .i64 i)], .e, [], 0, some []⟩ => some (.m a b n i)
 | _ => none
theorem B8F (τ : Vm.St) (x : PSx) (h : B8E τ = some x) : τ = C29 x := by
 unfold B8E at h
 split at h <;> first | (cases h; rfl) | cases h
theorem C7D (R : Type) (of : Nat → Option Ob) (x : PSx) (K : Vm.St → Option R) (kx : Exit → Vm.St → Option R) : E5 T K7 (fun _ => none) false FU (C4 Tryz.prog 24) of R (lp (A5 Tryz.prog 24) 0) (C29 x) (H3 0 [999999, 0, 1, 4, 12, 13] 64 K kx) = BSx R x (fun x' => K (C29 x')) (C9t R kx) := by
 cases x with
 | m _ _ _ _ => kernel_rfl
def HSx : LS := H5 T K7 (fun _ => none) (C4 Tryz.prog 24) (lp (A5 Tryz.prog 24) 0) 0 [999999, 0, 1, 4, 12, 13] 64 B8E BSx C9t
theorem B8G : E4 Tryz.prog T (C4 Tryz.prog 24) 0 (lp (A5 Tryz.prog 24) 0) HSx :=
 C3 follows B9 hK7 hS7 B2 (A7 _) C29 B8F C7D
def C7E : Nat → LC := atN 0 [(4, HSx)]
theorem C3a : G7 Tryz.prog T 24 C7E := D3 0 (List.forall_mem_cons.2 ⟨B8G.1, fun _ h => by cases h⟩) 1 (by kernel_rfl) ⟨trivial, loI (s0 := HSx) (by kernel_rfl) B8G⟩
theorem C7F (l m : V) : D9 Tryz.prog T K7 C7E false FU 24 (List Rs) (J1 T [74, 74] [l, m]) (fun _ => none) 0 (fun out => J8 T true [.d 4] out) = sxG 4 l m := by kernel_rfl
def C7G : List (Nat × E7) := (24, G1 T true [74, 74] (gF sag (sar 4))) :: C7C
theorem A8Q : D6 Tryz.prog T C7G := by
 refine C5 (sh := true) (rk := [.d 4]) (d := 4) (fu := FU) (Lo := C7E) (ds := [.slice .str, .slice .str]) follows B9 A8P (by kernel_rfl) C3a 40 (by kernel_rfl) (fun xs hd hg => ?_)
 obtain ⟨a, b, rfl, ha, hb⟩ := Z6 hd
 exact (C7F a b).trans (C30 ha hb hg)
def K8 : KC := F5 Tryz.prog T C7G false FU 4
theorem hK8 : K8.nat := A9 A8Q 4
theorem hS8 : X2 Tryz.prog T K8.dir := B6 follows B9 A8Q 4
def C3b : PNi → Vm.St
 | .m xs e a l n i => ⟨[(3, .o 0 1), (5, .p 1 65 []), (6, .i .i64 a), (9, .v 22 l), (10, .i .i64 n), (11, .i .i64 i)], (.n (some (.row 9 1 xs false false)) (.n (some (.box 65 (.v 65 e) false)) .e .e) .e), [], 2, some []⟩
def C9u (R : Type) (kx : Exit → Vm.St → Option R) : QNi → Option R
 | .o xs e a l n i => kx (.exit 2) ⟨[(3, .o 0 1), (5, .p 1 65 []), (6, .i .i64 a), (9, .v 22 l), (10, .i .i64 n), (11, .i .i64 i)], (.n (some (.row 9 1 xs false false)) (.n (some (.box 65 (.v 65 e) false)) .e .e) .e), [], 64, some []⟩
def B8H : Vm.St → Option PNi
 | ⟨[(3, .o 0 1), (5, .p 1 65 []), (6, .i .i64 a), (9, .v 22 l), (10, .i .i64 n), (11, .i .i64 i)], (.n (some (.row 9 1 xs false false)) (.n (some (.box 65 (.v 65 e) false)) .e .e) .e), [], 2, some []⟩ => some (.m xs e a l n i)
 | _ => none
theorem B8I (τ : Vm.St) (x : PNi) (h : B8H τ = some x) : τ = C3b x := by
 unfold B8H at h
 split at h <;> first | (cases h; rfl) | cases h
theorem C7H (R : Type) (of : Nat → Option Ob) (x : PNi) (K : Vm.St → Option R) (kx : Exit → Vm.St → Option R) : E5 T K8 (fun _ => none) false FU (C4 Tryz.prog 43) of R (lp (A5 Tryz.prog 43) 1) (C3b x) (H3 0 [999999, 3, 5, 6, 9, 10, 11] 64 K kx) = BNi R x (fun x' => K (C3b x')) (C9u R kx) := by
 cases x with
 | m _ _ _ _ _ _ => kernel_rfl
def HNi : LS := H5 T K8 (fun _ => none) (C4 Tryz.prog 43) (lp (A5 Tryz.prog 43) 1) 0 [999999, 3, 5, 6, 9, 10, 11] 64 B8H BNi C9u
theorem B8J : E4 Tryz.prog T (C4 Tryz.prog 43) 0 (lp (A5 Tryz.prog 43) 1) HNi :=
 C3 follows B9 hK8 hS8 B2 (A7 _) C3b B8I C7H
def C3c : PNo → Vm.St
 | .m xs l n i => ⟨[(3, .o 0 1), (9, .v 22 l), (10, .i .i64 n), (11, .i .i64 i)], (.n (some (.row 9 1 xs false false)) .e .e), [], 1, some []⟩
def C9v (R : Type) (kx : Exit → Vm.St → Option R) : QNo → Option R
 | .o xs l n i => kx (.exit 0) ⟨[(3, .o 0 1), (9, .v 22 l), (10, .i .i64 n), (11, .i .i64 i)], (.n (some (.row 9 1 xs false false)) .e .e), [], 128, some []⟩
def B8K : Vm.St → Option PNo
 | ⟨[(3, .o 0 1), (9, .v 22 l), (10, .i .i64 n), (11, .i .i64 i)], (.n (some (.row 9 1 xs false false)) .e .e), [], 1, some []⟩ => some (.m xs l n i)
 | _ => none
theorem B8L (τ : Vm.St) (x : PNo) (h : B8K τ = some x) : τ = C3c x := by
 unfold B8K at h
 split at h <;> first | (cases h; rfl) | cases h
theorem C7I (R : Type) (of : Nat → Option Ob) (x : PNo) (K : Vm.St → Option R) (kx : Exit → Vm.St → Option R) : E5 T K8 (loT [(6, HNi)]) false FU (C4 Tryz.prog 43) of R (lp (A5 Tryz.prog 43) 0) (C3c x) (H3 0 [999999, 3, 9, 10, 11] 128 K kx) = BNo R x (fun x' => K (C3c x')) (C9v R kx) := by
 cases x with
 | m _ _ _ _ => kernel_rfl
def HNo : LS := H5 T K8 (loT [(6, HNi)]) (C4 Tryz.prog 43) (lp (A5 Tryz.prog 43) 0) 0 [999999, 3, 9, 10, 11] 128 B8K BNo C9v
theorem B8M : E4 Tryz.prog T (C4 Tryz.prog 43) 0 (lp (A5 Tryz.prog 43) 0) HNo :=
 C3 follows B9 hK8 hS8 (A4Q (List.forall_mem_cons.2 ⟨B8J.1, fun _ h => by cases h⟩)) (A1G 1 (by kernel_rfl) ⟨trivial, loI (s0 := HNi) (by kernel_rfl) ((show lp (lp (A5 Tryz.prog 43) 0) 0 = lp (A5 Tryz.prog 43) 1 from by kernel_rfl) ▸ B8J)⟩) C3c B8L C7I
def C7J : Nat → LC := atN 0 [(3, HNo)]
theorem C3d : G7 Tryz.prog T 43 C7J := D3 0 (List.forall_mem_cons.2 ⟨B8M.1, fun _ h => by cases h⟩) 2 (by kernel_rfl) ⟨⟨trivial, loI (s0 := HNo) (by kernel_rfl) B8M⟩, loN (by kernel_rfl)⟩
theorem C7K (l : V) : D9 Tryz.prog T K8 C7J false FU 43 (List Rs) (J1 T [22] [l]) (fun _ => none) 0 (fun out => J8 T true [.r 9] out) = noG 9 l := by kernel_rfl
def C7L : List (Nat × E7) := (43, G1 T true [22] (gF nmg (nmr 9))) :: C7G
theorem A8R : D6 Tryz.prog T C7L := by
 refine C5 (sh := true) (rk := [.r 9]) (d := 4) (fu := FU) (Lo := C7J) (ds := [.slice A1d]) follows B9 A8Q (by kernel_rfl) C3d 40 (by kernel_rfl) (fun xs hd hg => ?_)
 obtain ⟨a, rfl, ha⟩ := W4 hd
 exact (C7K a).trans (C31 hg)
def K9 : KC := F5 Tryz.prog T C7L false FU 4
theorem hK9 : K9.nat := A9 A8R 4
theorem hS9 : X2 Tryz.prog T K9.dir := B6 follows B9 A8R 4
def C3e : PHn → Vm.St
 | .m nm l xs n i => ⟨[(1, .s nm), (5, .o 0 1), (9, .v 22 l), (10, .i .i64 n), (11, .i .i64 i)], (.n (some (.row 65 1 xs false false)) .e .e), [], 1, some []⟩
def C9w (R : Type) (kx : Exit → Vm.St → Option R) : QHn → Option R
 | .o nm l xs n i => kx (.exit 0) ⟨[(1, .s nm), (5, .o 0 1), (9, .v 22 l), (10, .i .i64 n), (11, .i .i64 i)], (.n (some (.row 65 1 xs false false)) .e .e), [], 64, some []⟩
def B8N : Vm.St → Option PHn
 | ⟨[(1, .s nm), (5, .o 0 1), (9, .v 22 l), (10, .i .i64 n), (11, .i .i64 i)], (.n (some (.row 65 1 xs false false)) .e .e), [], 1, some []⟩ => some (.m nm l xs n i)
 | _ => none
theorem B8O (τ : Vm.St) (x : PHn) (h : B8N τ = some x) : τ = C3e x := by
 unfold B8N at h
 split at h <;> first | (cases h; rfl) | cases h
theorem C7M (R : Type) (of : Nat → Option Ob) (x : PHn) (K : Vm.St → Option R) (kx : Exit → Vm.St → Option R) : E5 T K9 (fun _ => none) false FU (C4 Tryz.prog 21) of R (lp (A5 Tryz.prog 21) 0) (C3e x) (H3 0 [999999, 1, 5, 9, 10, 11] 64 K kx) = BHn R x (fun x' => K (C3e x')) (C9w R kx) := by
 cases x with
 | m _ _ _ _ _ => kernel_rfl
def HHn : LS := H5 T K9 (fun _ => none) (C4 Tryz.prog 21) (lp (A5 Tryz.prog 21) 0) 0 [999999, 1, 5, 9, 10, 11] 64 B8N BHn C9w
theorem B8P : E4 Tryz.prog T (C4 Tryz.prog 21) 0 (lp (A5 Tryz.prog 21) 0) HHn :=
 C3 follows B9 hK9 hS9 B2 (A7 _) C3e B8O C7M
def C7N : Nat → LC := atN 0 [(3, HHn)]
theorem C3f : G7 Tryz.prog T 21 C7N := D3 0 (List.forall_mem_cons.2 ⟨B8P.1, fun _ h => by cases h⟩) 1 (by kernel_rfl) ⟨trivial, loI (s0 := HHn) (by kernel_rfl) B8P⟩
theorem C7O (l : V) (n : List V) : D9 Tryz.prog T K9 C7N false FU 21 (List Rs) (J1 T [22, 9] [l, .s n]) (fun _ => none) 0 (fun out => J8 T true [.r 65] out) = hiG 65 noE l n := by kernel_rfl
def B8Q : List (Nat × E7) := (21, G1 T true [22, 9] (gF hig (hir 65))) :: C7L
theorem A6o : D6 Tryz.prog T B8Q := by
 refine C5 (sh := true) (rk := [.r 65]) (d := 4) (fu := FU) (Lo := C7N) (ds := [.slice A1d, .str]) follows B9 A8R (by kernel_rfl) C3f 40 (by kernel_rfl) (fun xs hd hg => ?_)
 obtain ⟨a, b, rfl, ha, hb⟩ := Z6 hd
 obtain ⟨ns, rfl, _⟩ := hb
 exact (C7O a _).trans (C32 hg)
def K10 : KC := F5 Tryz.prog T B8Q false FU 4
theorem D0u : K10.nat := A9 A6o 4
theorem D0v : X2 Tryz.prog T K10.dir := B6 follows B9 A6o 4
theorem C7P (l : V) : D9 Tryz.prog T K10 (fun _ _ => none) false FU 62 (List Rs) (J1 T [22] [l]) (fun _ => none) 0 (fun out => J8 T true [.d 65, .d 4] out) = leG 65 4 l := by kernel_rfl
def B8R : List (Nat × E7) := (62, G1 T true [22] (gF leg (ler 65 4))) :: B8Q
theorem A6p : D6 Tryz.prog T B8R := by
 refine C5 (sh := true) (rk := [.d 65, .d 4]) (d := 4) (fu := FU) (Lo := (fun _ _ => none)) (ds := [.slice A1d]) follows B9 A6o (by kernel_rfl) H0 40 (by kernel_rfl) (fun xs hd hg => ?_)
 obtain ⟨a, rfl, ha⟩ := W4 hd
 exact (C7P a).trans (C34 hg)
def K11 : KC := F5 Tryz.prog T B8R false FU 4
theorem D0w : K11.nat := A9 A6p 4
theorem D0x : X2 Tryz.prog T K11.dir := B6 follows B9 A6p 4
theorem C7Q (e : V) (h : Int) : D9 Tryz.prog T K11 (fun _ _ => none) false FU 45 (List Rs) (J1 T [65, 2] [e, .i h]) (fun _ => none) 0 (fun out => J8 T true [.d 4] out) = (bif B7 (C6 (h - (e.nth 2).int)) 8 then some [.d 4 (.b true)] else some [.d 4 (.b false)]) := by kernel_rfl
def B8S : List (Nat × E7) := (45, G1 T true [65, 2] (gF (fun _ => true) (lvr 4))) :: B8R
theorem A6q : D6 Tryz.prog T B8S := by
 refine C5 (sh := true) (rk := [.d 4]) (d := 4) (fu := FU) (Lo := (fun _ _ => none)) (ds := [A1d, .int .i64]) follows B9 A6p (by kernel_rfl) H0 40 (by kernel_rfl) (fun xs hd hg => ?_)
 obtain ⟨a, b, rfl, ha, hb⟩ := Z6 hd
 obtain ⟨h, rfl, _⟩ := hb
 refine (C7Q a h).trans ?_
 show _ = some [Rs.d _ (.b (B7 (C6 (h - (a.nth 2).int)) 8))]
 cases B7 (C6 (h - (a.nth 2).int)) 8 <;> rfl
def K12 : KC := F5 Tryz.prog T B8S false FU 4
theorem D0y : K12.nat := A9 A6q 4
theorem D0z : X2 Tryz.prog T K12.dir := B6 follows B9 A6q 4
theorem C3g  : D9 Tryz.prog T K12 (fun _ _ => none) false FU 46 (List Rs) (J1 T [22] [.n]) (fun _ => none) 0 (fun out => J8 T true [.r 65] out) = some [.r 65 [] true] := by kernel_rfl
theorem C7R (l : List V) : D9 Tryz.prog T K12 (fun _ _ => none) false FU 46 (List Rs) (J1 T [22] [.l l]) (fun _ => none) 0 (fun out => J8 T true [.r 65] out) = (R9 (0 + l.length) <| some [.r 65 l false]) := by kernel_rfl
def B8T : List (Nat × E7) := (46, G1 T true [22] (gF clg (clr 65))) :: B8S
theorem A6r : D6 Tryz.prog T B8T := by
 refine C5 (sh := true) (rk := [.r 65]) (d := 4) (fu := FU) (Lo := (fun _ _ => none)) (ds := [.slice A1d]) follows B9 A6q (by kernel_rfl) H0 40 (by kernel_rfl) (fun xs hd hg => ?_)
 obtain ⟨a, rfl, ha⟩ := W4 hd
 rcases ha with rfl | ⟨l, rfl, _⟩
 ·exact C3g
 ·have hl : l.length ≤ 10000 := D07 hg
  refine (C7R l).trans ?_
  rw [D1 (by omega)]; rfl
def K13 : KC := F5 Tryz.prog T B8T false FU 4
theorem D0A : K13.nat := A9 A6r 4
theorem D0B : X2 Tryz.prog T K13.dir := B6 follows B9 A6r 4
theorem C7S (l : V) (n : List V) (h : Int) : D9 Tryz.prog T K13 (fun _ _ => none) false FU 19 (List Rs) (J1 T [22, 9, 2] [l, .s n, .i h]) (fun _ => none) 0 (fun out => J8 T true [.d 65, .d 4] out) = liG 65 4 l n h := by kernel_rfl
def B8U : List (Nat × E7) := (19, G1 T true [22, 9, 2] (gF lig (lir 65 4))) :: B8T
theorem A6s : D6 Tryz.prog T B8U := by
 refine C5 (sh := true) (rk := [.d 65, .d 4]) (d := 4) (fu := FU) (Lo := (fun _ _ => none)) (ds := [.slice A1d, .str, .int .i64]) follows B9 A6r (by kernel_rfl) H0 40 (by kernel_rfl) (fun xs hd hg => ?_)
 obtain ⟨a, b, c, rfl, ha, hb, hc⟩ := A9a hd
 obtain ⟨ns, rfl, _⟩ := hb
 obtain ⟨h, rfl, _⟩ := hc
 exact (C7S a _ h).trans (C33 hg)
def K14 : KC := F5 Tryz.prog T B8U false FU 4
theorem D0C : K14.nat := A9 A6s 4
theorem D0D : X2 Tryz.prog T K14.dir := B6 follows B9 A6s 4
end Go.Proofs.YtadjkmffodhmbaaGreat
namespace Go.Proofs.YtadjkmffodhmbaaGreat
open Go.Vm Go.Shelf Go.Proofs
set_option maxRecDepth 100000
set_option linter.unusedVariables false
def Tryz.keysA_ren : Go.Shelf.Ren := ⟨fun | 7 => 61 | 10 => 79 | n => n, fun | 23 => 91 | 26 => 9 | 3 => 22 | 28 => 127 | 0 => 0 | 27 => 126 | 33 => 143 | 4 => 4 | n => n, fun | n => n⟩
theorem Tryz.keysA : Go.Proofs.SlLaysZ.n7 Tryz.prog Tryz.keysA_ren := {
 mixed := by kernel_rfl
 f7 := ⟨Tryz.f61.name, by decide, Tryz.func61.trans (congrArg some (by kernel_rfl))⟩
 f10 := ⟨Tryz.f79.name, by decide, Tryz.func79.trans (congrArg some (by kernel_rfl))⟩
 t0 := Tryz.underlying0
 a0 := Tryz.isAgg0
 z0 := Tryz.sizeOf0
 v0 := Tryz.zeroValue0
 t4 := Tryz.underlying4
 a4 := Tryz.isAgg4
 z4 := Tryz.sizeOf4
 v4 := Tryz.zeroValue4
 t23 := Tryz.underlying91
 a23 := Tryz.isAgg91
 z23 := Tryz.sizeOf91
 v23 := Tryz.zeroValue91
 t26 := Tryz.underlying9
 a26 := Tryz.isAgg9
 z26 := Tryz.sizeOf9
 v26 := Tryz.zeroValue9
 t27 := Tryz.underlying126
 a27 := Tryz.isAgg126
 z27 := Tryz.sizeOf126
 v27 := Tryz.zeroValue126
 t28 := Tryz.underlying127
 a28 := Tryz.isAgg127
 z28 := Tryz.sizeOf127
 v28 := Tryz.zeroValue127
 t33 := Tryz.underlying143
 a33 := Tryz.isAgg143
 z33 := Tryz.sizeOf143
 v33 := Tryz.zeroValue143 }
def Tryz.sortedA_ren : Go.Shelf.Ren := ⟨fun | 6 => 60 | 8 => 77 | 9 => 78 | 11 => 91 | 13 => 93 | 12 => 92 | 23 => 109 | 24 => 110 | 14 => 100 | 15 => 101 | 16 => 102 | 17 => 103 | 18 => 104 | 19 => 105 | 20 => 106 | 21 => 107 | 22 => 108 | 25 => 113 | 26 => 114 | 27 => 115 | 28 => 116 | 29 => 117 | 30 => 118 | 31 => 122 | n => n, fun | 26 => 9 | 28 => 127 | 24 => 74 | 0 => 0 | 3 => 3 | 37 => 151 | 48 => 23 | 50 => 133 | 4 => 4 | 40 => 162 | 39 => 161 | 45 => 167 | 5 => 5 | 9 => 9 | 51 => 177 | 55 => 181 | 57 => 187 | 58 => 188 | 33 => 143 | n => n, fun | n => n⟩
theorem Tryz.sortedA : Go.Proofs.SlLaysZ.n6 Tryz.prog Tryz.sortedA_ren := {
 mixed := by kernel_rfl
 f6 := ⟨Tryz.f60.name, by decide, Tryz.func60.trans (congrArg some (by kernel_rfl))⟩
 f8 := ⟨Tryz.f77.name, by decide, Tryz.func77.trans (congrArg some (by kernel_rfl))⟩
 f11 := ⟨Tryz.f91.name, by decide, Tryz.func91.trans (congrArg some (by kernel_rfl))⟩
 t0 := Tryz.underlying0
 a0 := Tryz.isAgg0
 z0 := Tryz.sizeOf0
 v0 := Tryz.zeroValue0
 t24 := Tryz.underlying74
 a24 := Tryz.isAgg74
 z24 := Tryz.sizeOf74
 v24 := Tryz.zeroValue74
 t26 := Tryz.underlying9
 a26 := Tryz.isAgg9
 z26 := Tryz.sizeOf9
 v26 := Tryz.zeroValue9
 t28 := Tryz.underlying127
 a28 := Tryz.isAgg127
 z28 := Tryz.sizeOf127
 v28 := Tryz.zeroValue127
 i26 := by kernel_rfl }
def Tryz.sortA_ren : Go.Shelf.Ren := ⟨fun | 6 => 78 | 8 => 93 | 9 => 92 | 19 => 109 | 20 => 110 | 21 => 100 | 22 => 101 | 23 => 102 | 24 => 103 | 25 => 104 | 26 => 105 | 27 => 106 | 28 => 107 | 29 => 108 | 36 => 113 | 31 => 114 | 32 => 115 | 37 => 116 | 38 => 117 | 39 => 118 | 41 => 122 | n => n, fun | 27 => 74 | 29 => 9 | 3 => 3 | 32 => 151 | 26 => 74 | 0 => 0 | 44 => 23 | 46 => 133 | 4 => 4 | 36 => 162 | 35 => 161 | 41 => 167 | 5 => 5 | 9 => 9 | 53 => 177 | 57 => 181 | 63 => 187 | 64 => 188 | n => n, fun | n => n⟩
theorem Tryz.sortA : Go.Proofs.SlLaysM.n6 Tryz.prog Tryz.sortA_ren := {
 mixed := by kernel_rfl
 f6 := ⟨Tryz.f78.name, by decide, Tryz.func78.trans (congrArg some (by kernel_rfl))⟩
 f8 := Tryz.func93.trans (congrArg some (by kernel_rfl))
 f9 := ⟨Tryz.f92.name, by decide, Tryz.func92.trans (congrArg some (by kernel_rfl))⟩
 f19 := Tryz.func109.trans (congrArg some (by kernel_rfl))
 f20 := Tryz.func110.trans (congrArg some (by kernel_rfl))
 f21 := ⟨Tryz.f100.name, by decide, Tryz.func100.trans (congrArg some (by kernel_rfl))⟩
 f22 := ⟨Tryz.f101.name, by decide, Tryz.func101.trans (congrArg some (by kernel_rfl))⟩
 f23 := ⟨Tryz.f102.name, by decide, Tryz.func102.trans (congrArg some (by kernel_rfl))⟩
 f24 := ⟨Tryz.f103.name, by decide, Tryz.func103.trans (congrArg some (by kernel_rfl))⟩
 f25 := ⟨Tryz.f104.name, by decide, Tryz.func104.trans (congrArg some (by kernel_rfl))⟩
 f26 := ⟨Tryz.f105.name, by decide, Tryz.func105.trans (congrArg some (by kernel_rfl))⟩
 f27 := ⟨Tryz.f106.name, by decide, Tryz.func106.trans (congrArg some (by kernel_rfl))⟩
 f28 := ⟨Tryz.f107.name, by decide, Tryz.func107.trans (congrArg some (by kernel_rfl))⟩
 f29 := ⟨Tryz.f108.name, by decide, Tryz.func108.trans (congrArg some (by kernel_rfl))⟩
 f31 := Tryz.func114.trans (congrArg some (by kernel_rfl))
 f32 := Tryz.func115.trans (congrArg some (by kernel_rfl))
 f36 := ⟨Tryz.f113.name, by decide, Tryz.func113.trans (congrArg some (by kernel_rfl))⟩
 f37 := ⟨Tryz.f116.name, by decide, Tryz.func116.trans (congrArg some (by kernel_rfl))⟩
 f38 := ⟨Tryz.f117.name, by decide, Tryz.func117.trans (congrArg some (by kernel_rfl))⟩
 f39 := ⟨Tryz.f118.name, by decide, Tryz.func118.trans (congrArg some (by kernel_rfl))⟩
 f41 := ⟨Tryz.f122.name, by decide, Tryz.func122.trans (congrArg some (by kernel_rfl))⟩
 t0 := Tryz.underlying0
 a0 := Tryz.isAgg0
 z0 := Tryz.sizeOf0
 v0 := Tryz.zeroValue0
 t3 := Tryz.underlying3
 a3 := Tryz.isAgg3
 z3 := Tryz.sizeOf3
 v3 := Tryz.zeroValue3
 t4 := Tryz.underlying4
 a4 := Tryz.isAgg4
 z4 := Tryz.sizeOf4
 v4 := Tryz.zeroValue4
 t5 := Tryz.underlying5
 a5 := Tryz.isAgg5
 z5 := Tryz.sizeOf5
 v5 := Tryz.zeroValue5
 t9 := Tryz.underlying9
 a9 := Tryz.isAgg9
 z9 := Tryz.sizeOf9
 v9 := Tryz.zeroValue9
 t26 := Tryz.underlying74
 a26 := Tryz.isAgg74
 z26 := Tryz.sizeOf74
 v26 := Tryz.zeroValue74
 t27 := Tryz.underlying74
 a27 := Tryz.isAgg74
 z27 := Tryz.sizeOf74
 v27 := Tryz.zeroValue74
 t29 := Tryz.underlying9
 a29 := Tryz.isAgg9
 z29 := Tryz.sizeOf9
 v29 := Tryz.zeroValue9
 t32 := Tryz.underlying151
 a32 := Tryz.isAgg151
 z32 := Tryz.sizeOf151
 v32 := Tryz.zeroValue151
 t35 := Tryz.underlying161
 a35 := Tryz.isAgg161
 z35 := Tryz.sizeOf161
 v35 := Tryz.zeroValue161
 t36 := Tryz.underlying162
 a36 := Tryz.isAgg162
 z36 := Tryz.sizeOf162
 v36 := Tryz.zeroValue162
 t41 := Tryz.underlying167
 a41 := Tryz.isAgg167
 z41 := Tryz.sizeOf167
 v41 := Tryz.zeroValue167
 t44 := Tryz.underlying23
 a44 := Tryz.isAgg23
 z44 := Tryz.sizeOf23
 v44 := Tryz.zeroValue23
 t46 := Tryz.underlying133
 a46 := Tryz.isAgg133
 z46 := Tryz.sizeOf133
 v46 := Tryz.zeroValue133
 t53 := Tryz.underlying177
 a53 := Tryz.isAgg177
 z53 := Tryz.sizeOf177
 v53 := Tryz.zeroValue177
 t57 := Tryz.underlying181
 a57 := Tryz.isAgg181
 z57 := Tryz.sizeOf181
 v57 := Tryz.zeroValue181
 t63 := Tryz.underlying187
 a63 := Tryz.isAgg187
 z63 := Tryz.sizeOf187
 v63 := Tryz.zeroValue187
 t64 := Tryz.underlying188
 a64 := Tryz.isAgg188
 z64 := Tryz.sizeOf188
 v64 := Tryz.zeroValue188 }
theorem C7T (m : Nat) : AnyZ.SortsIn Tryz.prog Tryz.sortedA_ren Fence.wide m :=
 ⟨fun blk off cap ss W hH hblk hsz => callsIn_wide.2 (AnyM.slices_Sort_string Tryz.sortA blk off cap ss W hH hblk hsz),
  fun p cap W => callsIn_wide.2 (AnyM.slices_Sort_string_none Tryz.sortA p cap W)⟩
theorem A6t : A5y Tryz.prog 60 79 9 := by
 intro Bm b nn D0 R w hBm hcell hown hsize
 have hmax : Maps.size D0 ≤ maxLen := Nat.le_trans hsize (by decide)
 have hseq : SeqGives Fence.wide 2 Tryz.prog 79 #[.pointer (some ⟨Bm, 0, none⟩)] encStr (fun ss => ss.Perm (strKeys D0)) (Maps.size D0) w := AnyZ.keys_gives (ρ := Tryz.keysA_ren) { Tryz.keysA with } Fence.wide _ trivial rfl (by omega) Bm b nn D0 w hBm hcell hown
 have cS := AnyZ.sorted_in Tryz.sortedA Fence.wide 5 trivial trivial trivial trivial rfl (by omega) (C7T _) (enters_of Tryz.func78 (by kernel_rfl) rfl) 79 #[.pointer (some ⟨Bm, 0, none⟩)] trivial (enters_of Tryz.func79 (by kernel_rfl) rfl) _ _ hmax (by omega) w hseq
 change CallsIn _ _ Tryz.prog 60 _ _ _ at cS
 exact callsIn_wide.1 cS
end Go.Proofs.YtadjkmffodhmbaaGreat
namespace Go.Proofs.YtadjkmffodhmbaaGreat
open Go.Vm
set_option maxRecDepth 100000
set_option linter.unusedVariables false
set_option linter.constructorNameAsVariable false
def B8V : List (Nat × E7) := (60, A4h 79 9) :: B8U
theorem A6u : D6 Tryz.prog T B8V := A6s.cons (B1Z _ _) (by rw [A6R]; exact A89 B9 A6t (by kernel_rfl) (by kernel_rfl) (enters_of Tryz.func60 (by kernel_rfl) rfl))
def K15 : KC := F5 Tryz.prog T B8V false FU 4
theorem D0a : K15.nat := A9 A6u 4
theorem D0b : X2 Tryz.prog T K15.dir := B6 follows B9 A6u 4
end Go.Proofs.YtadjkmffodhmbaaGreat
namespace Go.Proofs.YtadjkmffodhmbaaGreat
open Go.Vm
set_option maxRecDepth 100000
set_option linter.unusedVariables false
set_option linter.constructorNameAsVariable false
def C3h : PSr → Vm.St
 | .m l fr m h xs ks nk n i => ⟨[(0, .v 22 l), (1, .s fr), (2, .i .i64 m), (3, .i .i64 h), (9, .o 0 1), (16, .o 1 1), (17, .i .i64 n), (18, .i .i64 i)], (.n (some (.row 65 1 xs false false)) (.n (some (.row 9 1 ks nk false)) .e .e) .e), [], 2, some []⟩
def C9x (R : Type) (kx : Exit → Vm.St → Option R) : QSr → Option R
 | .o l fr m h xs ks nk n i => kx (.exit 0) ⟨[(0, .v 22 l), (1, .s fr), (2, .i .i64 m), (3, .i .i64 h), (9, .o 0 1), (16, .o 1 1), (17, .i .i64 n), (18, .i .i64 i)], (.n (some (.row 65 1 xs false false)) (.n (some (.row 9 1 ks nk false)) .e .e) .e), [], 1024, some []⟩
def B8W : Vm.St → Option PSr
 | ⟨[(0, .v 22 l), (1, .s fr), (2, .i .i64 m), (3, .i .i64 h), (9, .o 0 1), (16, .o 1 1), (17, .i .i64 n), (18, .i .i64 i)], (.n (some (.row 65 1 xs false false)) (.n (some (.row 9 1 ks nk false)) .e .e) .e), [], 2, some []⟩ => some (.m l fr m h xs ks nk n i)
 | _ => none
theorem B8X (τ : Vm.St) (x : PSr) (h : B8W τ = some x) : τ = C3h x := by
 unfold B8W at h
 split at h <;> first | (cases h; rfl) | cases h
theorem C7U (R : Type) (of : Nat → Option Ob) (x : PSr) (K : Vm.St → Option R) (kx : Exit → Vm.St → Option R) : E5 T K15 (fun _ => none) false FU (C4 Tryz.prog 23) of R (lp (A5 Tryz.prog 23) 0) (C3h x) (H3 0 [999999, 0, 1, 2, 3, 9, 16, 17, 18] 1024 K kx) = BSr R x (fun x' => K (C3h x')) (C9x R kx) := by
 cases x with
 | m _ _ _ _ _ _ _ _ _ => kernel_rfl
def HSr : LS := H5 T K15 (fun _ => none) (C4 Tryz.prog 23) (lp (A5 Tryz.prog 23) 0) 0 [999999, 0, 1, 2, 3, 9, 16, 17, 18] 1024 B8W BSr C9x
theorem B8Y : E4 Tryz.prog T (C4 Tryz.prog 23) 0 (lp (A5 Tryz.prog 23) 0) HSr :=
 C3 follows B9 D0a D0b B2 (A7 _) C3h B8X C7U
def C7V : Nat → LC := atN 0 [(3, HSr)]
theorem C3i : G7 Tryz.prog T 23 C7V := D3 0 (List.forall_mem_cons.2 ⟨B8Y.1, fun _ h => by cases h⟩) 1 (by kernel_rfl) ⟨trivial, loI (s0 := HSr) (by kernel_rfl) B8Y⟩
theorem C7W (l : V) (n : List V) (m h : Int) : D9 Tryz.prog T K15 C7V false FU 23 (List Rs) (J1 T [22, 9, 3, 2] [l, .s n, .i m, .i h]) (fun _ => none) 0 (fun out => J8 T true [.r 65] out) = scG 65 noE l n m h := by kernel_rfl
def B8Z : List (Nat × E7) := (23, G1 T true [22, 9, 3, 2] (gF scg (scr 65))) :: B8V
theorem A6v : D6 Tryz.prog T B8Z := by
 refine C5 (sh := true) (rk := [.r 65]) (d := 4) (fu := FU) (Lo := C7V) (ds := [.slice A1d, .str, .int .i64, .int .i64]) follows B9 A6u (by kernel_rfl) C3i 40 (by kernel_rfl) (fun xs hd hg => ?_)
 obtain ⟨a, b, c, d, rfl, ha, hb, hc, hd⟩ := A9b hd
 obtain ⟨ns, rfl, _⟩ := hb
 obtain ⟨m, rfl, _⟩ := hc
 obtain ⟨h, rfl, _⟩ : (D.int .i64).has d := by assumption
 exact (C7W a _ m h).trans (C37 hg)
def K16 : KC := F5 Tryz.prog T B8Z false FU 4
theorem D0c : K16.nat := A9 A6v 4
theorem D0d : X2 Tryz.prog T K16.dir := B6 follows B9 A6v 4
def C3j : PEr → Vm.St
 | .m l h xs ks nk n i => ⟨[(0, .v 22 l), (1, .i .i64 h), (5, .o 0 1), (11, .o 1 1), (12, .i .i64 n), (13, .i .i64 i)], (.n (some (.row 9 1 xs false false)) (.n (some (.row 9 1 ks nk false)) .e .e) .e), [], 2, some []⟩
def C9y (R : Type) (kx : Exit → Vm.St → Option R) : QEr → Option R
 | .o l h xs ks nk n i => kx (.exit 0) ⟨[(0, .v 22 l), (1, .i .i64 h), (5, .o 0 1), (11, .o 1 1), (12, .i .i64 n), (13, .i .i64 i)], (.n (some (.row 9 1 xs false false)) (.n (some (.row 9 1 ks nk false)) .e .e) .e), [], 1024, some []⟩
def B80 : Vm.St → Option PEr
 | ⟨[(0, .v 22 l), (1, .i .i64 h), (5, .o 0 1), (11, .o 1 1), (12, .i .i64 n), (13, .i .i64 i)], (.n (some (.row 9 1 xs false false)) (.n (some (.row 9 1 ks nk false)) .e .e) .e), [], 2, some []⟩ => some (.m l h xs ks nk n i)
 | _ => none
theorem B81 (τ : Vm.St) (x : PEr) (h : B80 τ = some x) : τ = C3j x := by
 unfold B80 at h
 split at h <;> first | (cases h; rfl) | cases h
theorem C7X (R : Type) (of : Nat → Option Ob) (x : PEr) (K : Vm.St → Option R) (kx : Exit → Vm.St → Option R) : E5 T K16 (fun _ => none) false FU (C4 Tryz.prog 26) of R (lp (A5 Tryz.prog 26) 0) (C3j x) (H3 0 [999999, 0, 1, 5, 11, 12, 13] 1024 K kx) = BEr R x (fun x' => K (C3j x')) (C9y R kx) := by
 cases x with
 | m _ _ _ _ _ _ _ => kernel_rfl
def HEr : LS := H5 T K16 (fun _ => none) (C4 Tryz.prog 26) (lp (A5 Tryz.prog 26) 0) 0 [999999, 0, 1, 5, 11, 12, 13] 1024 B80 BEr C9y
theorem B82 : E4 Tryz.prog T (C4 Tryz.prog 26) 0 (lp (A5 Tryz.prog 26) 0) HEr :=
 C3 follows B9 D0c D0d B2 (A7 _) C3j B81 C7X
def C7Y : Nat → LC := atN 0 [(3, HEr)]
theorem C3k : G7 Tryz.prog T 26 C7Y := D3 0 (List.forall_mem_cons.2 ⟨B82.1, fun _ h => by cases h⟩) 1 (by kernel_rfl) ⟨trivial, loI (s0 := HEr) (by kernel_rfl) B82⟩
theorem C7Z (l : V) (h : Int) : D9 Tryz.prog T K16 C7Y false FU 26 (List Rs) (J1 T [22, 2] [l, .i h]) (fun _ => none) 0 (fun out => J8 T true [.r 9] out) = edG 9 l h := by kernel_rfl
def B83 : List (Nat × E7) := (26, G1 T true [22, 2] (gF edg (edr 9))) :: B8Z
theorem A6w : D6 Tryz.prog T B83 := by
 refine C5 (sh := true) (rk := [.r 9]) (d := 4) (fu := FU) (Lo := C7Y) (ds := [.slice A1d, .int .i64]) follows B9 A6v (by kernel_rfl) C3k 40 (by kernel_rfl) (fun xs hd hg => ?_)
 obtain ⟨a, b, rfl, ha, hb⟩ := Z6 hd
 obtain ⟨h, rfl, _⟩ := hb
 exact (C7Z a h).trans (C38 hg)
def K17 : KC := F5 Tryz.prog T B83 false FU 4
theorem D0e : K17.nat := A9 A6w 4
theorem D0f : X2 Tryz.prog T K17.dir := B6 follows B9 A6w 4
def C3l : PAr → Vm.St
 | .m l xs ks nk n i => ⟨[(0, .v 22 l), (3, .o 0 1), (8, .o 1 1), (9, .i .i64 n), (10, .i .i64 i)], (.n (some (.row 65 1 xs false false)) (.n (some (.row 9 1 ks nk false)) .e .e) .e), [], 2, some []⟩
def C9z (R : Type) (kx : Exit → Vm.St → Option R) : QAr → Option R
 | .o l xs ks nk n i => kx (.exit 0) ⟨[(0, .v 22 l), (3, .o 0 1), (8, .o 1 1), (9, .i .i64 n), (10, .i .i64 i)], (.n (some (.row 65 1 xs false false)) (.n (some (.row 9 1 ks nk false)) .e .e) .e), [], 1024, some []⟩
def B84 : Vm.St → Option PAr
 | ⟨[(0, .v 22 l), (3, .o 0 1), (8, .o 1 1), (9, .i .i64 n), (10, .i .i64 i)], (.n (some (.row 65 1 xs false false)) (.n (some (.row 9 1 ks nk false)) .e .e) .e), [], 2, some []⟩ => some (.m l xs ks nk n i)
 | _ => none
theorem B85 (τ : Vm.St) (x : PAr) (h : B84 τ = some x) : τ = C3l x := by
 unfold B84 at h
 split at h <;> first | (cases h; rfl) | cases h
theorem C70 (R : Type) (of : Nat → Option Ob) (x : PAr) (K : Vm.St → Option R) (kx : Exit → Vm.St → Option R) : E5 T K17 (fun _ => none) false FU (C4 Tryz.prog 17) of R (lp (A5 Tryz.prog 17) 0) (C3l x) (H3 0 [999999, 0, 3, 8, 9, 10] 1024 K kx) = BAr R x (fun x' => K (C3l x')) (C9z R kx) := by
 cases x with
 | m _ _ _ _ _ _ => kernel_rfl
def HAr : LS := H5 T K17 (fun _ => none) (C4 Tryz.prog 17) (lp (A5 Tryz.prog 17) 0) 0 [999999, 0, 3, 8, 9, 10] 1024 B84 BAr C9z
theorem B86 : E4 Tryz.prog T (C4 Tryz.prog 17) 0 (lp (A5 Tryz.prog 17) 0) HAr :=
 C3 follows B9 D0e D0f B2 (A7 _) C3l B85 C70
def C71 : Nat → LC := atN 0 [(3, HAr)]
theorem C3m : G7 Tryz.prog T 17 C71 := D3 0 (List.forall_mem_cons.2 ⟨B86.1, fun _ h => by cases h⟩) 1 (by kernel_rfl) ⟨trivial, loI (s0 := HAr) (by kernel_rfl) B86⟩
theorem C72 (l : V) : D9 Tryz.prog T K17 C71 false FU 17 (List Rs) (J1 T [22] [l]) (fun _ => none) 0 (fun out => J8 T true [.r 65] out) = alG 65 noE l := by kernel_rfl
def B87 : List (Nat × E7) := (17, G1 T true [22] (gF alg (alr 65))) :: B83
theorem A6x : D6 Tryz.prog T B87 := by
 refine C5 (sh := true) (rk := [.r 65]) (d := 4) (fu := FU) (Lo := C71) (ds := [.slice A1d]) follows B9 A6w (by kernel_rfl) C3m 40 (by kernel_rfl) (fun xs hd hg => ?_)
 obtain ⟨a, rfl, ha⟩ := W4 hd
 exact (C72 a).trans (C39 hg)
def K18 : KC := F5 Tryz.prog T B87 false FU 4
theorem A2G : K18.nat := A9 A6x 4
theorem A96 : X2 Tryz.prog T K18.dir := B6 follows B9 A6x 4
def C3n : PNn → Vm.St
 | .m l es n i => ⟨[(3, .p 0 93 []), (9, .v 22 l), (10, .i .i64 n), (11, .i .i64 i)], (.n (some (.box 93 (.g 93 [.m 1]) false)) (.n (some (.sm 9 22 65 es none)) .e .e) .e), [], 2, some []⟩
def C9A (R : Type) (kx : Exit → Vm.St → Option R) : QNn → Option R
 | .o l es n i => kx (.exit 0) ⟨[(3, .p 0 93 []), (9, .v 22 l), (10, .i .i64 n), (11, .i .i64 i)], (.n (some (.box 93 (.g 93 [.m 1]) false)) (.n (some (.sm 9 22 65 es none)) .e .e) .e), [], 64, some []⟩
def B88 : Vm.St → Option PNn
 | ⟨[(3, .p 0 93 []), (9, .v 22 l), (10, .i .i64 n), (11, .i .i64 i)], (.n (some (.box 93 (.g 93 [.m 1]) false)) (.n (some (.sm 9 22 65 es none)) .e .e) .e), [], 2, some []⟩ => some (.m l es n i)
 | _ => none
theorem B89 (τ : Vm.St) (x : PNn) (h : B88 τ = some x) : τ = C3n x := by
 unfold B88 at h
 split at h <;> first | (cases h; rfl) | cases h
theorem C73 (R : Type) (of : Nat → Option Ob) (x : PNn) (K : Vm.St → Option R) (kx : Exit → Vm.St → Option R) : E5 T K18 (fun _ => none) false FU (C4 Tryz.prog 10) of R (lp (A5 Tryz.prog 10) 0) (C3n x) (H3 0 [999999, 3, 9, 10, 11] 64 K kx) = BNn R x (fun x' => K (C3n x')) (C9A R kx) := by
 cases x with
 | m _ _ _ _ => kernel_rfl
def HNn : LS := H5 T K18 (fun _ => none) (C4 Tryz.prog 10) (lp (A5 Tryz.prog 10) 0) 0 [999999, 3, 9, 10, 11] 64 B88 BNn C9A
theorem B9a : E4 Tryz.prog T (C4 Tryz.prog 10) 0 (lp (A5 Tryz.prog 10) 0) HNn :=
 C3 follows B9 A2G A96 B2 (A7 _) C3n B89 C73
def C9B : Nat → LC := atN 0 [(3, HNn)]
theorem A4Z : G7 Tryz.prog T 10 C9B := D3 0 (List.forall_mem_cons.2 ⟨B9a.1, fun _ h => by cases h⟩) 1 (by kernel_rfl) ⟨trivial, loI (s0 := HNn) (by kernel_rfl) B9a⟩
def C3o : PSw → Vm.St
 | .m es fr m h xs nl ks nk n i => ⟨[(0, .p 0 93 []), (1, .s fr), (2, .i .i64 m), (3, .i .i64 h), (9, .o 2 1), (15, .o 3 1), (16, .i .i64 n), (17, .i .i64 i)], (.n (some (.box 93 (.g 93 [.m 1]) false)) (.n (some (.sm 9 22 65 es none)) (.n (some (.row 9 1 ks nk false)) .e .e) .e) (.n (some (.row 65 1 xs nl false)) .e .e)), [1, 0], 4, some []⟩
def C9C (R : Type) (kx : Exit → Vm.St → Option R) : QSw → Option R
 | .o es fr m h xs nl ks nk n i => kx (.exit 0) ⟨[(0, .p 0 93 []), (1, .s fr), (2, .i .i64 m), (3, .i .i64 h), (9, .o 2 1), (15, .o 3 1), (16, .i .i64 n), (17, .i .i64 i)], (.n (some (.box 93 (.g 93 [.m 1]) false)) (.n (some (.sm 9 22 65 es none)) (.n (some (.row 9 1 ks nk false)) .e .e) .e) (.n (some (.row 65 1 xs nl false)) .e .e)), [1, 0], 1024, some []⟩
def B9b : Vm.St → Option PSw
 | ⟨[(0, .p 0 93 []), (1, .s fr), (2, .i .i64 m), (3, .i .i64 h), (9, .o 2 1), (15, .o 3 1), (16, .i .i64 n), (17, .i .i64 i)], (.n (some (.box 93 (.g 93 [.m 1]) false)) (.n (some (.sm 9 22 65 es none)) (.n (some (.row 9 1 ks nk false)) .e .e) .e) (.n (some (.row 65 1 xs nl false)) .e .e)), [1, 0], 4, some []⟩ => some (.m es fr m h xs nl ks nk n i)
 | _ => none
theorem B9c (τ : Vm.St) (x : PSw) (h : B9b τ = some x) : τ = C3o x := by
 unfold B9b at h
 split at h <;> first | (cases h; rfl) | cases h
theorem C74 (R : Type) (of : Nat → Option Ob) (x : PSw) (K : Vm.St → Option R) (kx : Exit → Vm.St → Option R) : E5 T K18 (fun _ => none) false FU (C4 Tryz.prog 22) of R (lp (A5 Tryz.prog 22) 0) (C3o x) (H3 2 [999999, 0, 1, 2, 3, 9, 15, 16, 17] 1024 K kx) = BSw R x (fun x' => K (C3o x')) (C9C R kx) := by
 cases x with
 | m _ _ _ _ _ _ _ _ _ _ => kernel_rfl
def HSw : LS := H5 T K18 (fun _ => none) (C4 Tryz.prog 22) (lp (A5 Tryz.prog 22) 0) 2 [999999, 0, 1, 2, 3, 9, 15, 16, 17] 1024 B9b BSw C9C
theorem B9d : E4 Tryz.prog T (C4 Tryz.prog 22) 2 (lp (A5 Tryz.prog 22) 0) HSw :=
 C3 follows B9 A2G A96 B2 (A7 _) C3o B9c C74
def C9D : Nat → LC := atN 2 [(3, HSw)]
theorem A40 : G7 Tryz.prog T 22 C9D := D3 2 (List.forall_mem_cons.2 ⟨B9d.1, fun _ h => by cases h⟩) 1 (by kernel_rfl) ⟨trivial, loI (s0 := HSw) (by kernel_rfl) B9d⟩
def C3p : PEw → Vm.St
 | .m es h xs nl ks nk n i => ⟨[(0, .p 0 93 []), (1, .i .i64 h), (5, .o 2 1), (11, .o 3 1), (12, .i .i64 n), (13, .i .i64 i)], (.n (some (.box 93 (.g 93 [.m 1]) false)) (.n (some (.sm 9 22 65 es none)) (.n (some (.row 9 1 ks nk false)) .e .e) .e) (.n (some (.row 9 1 xs nl false)) .e .e)), [1, 0], 4, some []⟩
def C9E (R : Type) (kx : Exit → Vm.St → Option R) : QEw → Option R
 | .o es h xs nl ks nk n i => kx (.exit 0) ⟨[(0, .p 0 93 []), (1, .i .i64 h), (5, .o 2 1), (11, .o 3 1), (12, .i .i64 n), (13, .i .i64 i)], (.n (some (.box 93 (.g 93 [.m 1]) false)) (.n (some (.sm 9 22 65 es none)) (.n (some (.row 9 1 ks nk false)) .e .e) .e) (.n (some (.row 9 1 xs nl false)) .e .e)), [1, 0], 1024, some []⟩
def B9e : Vm.St → Option PEw
 | ⟨[(0, .p 0 93 []), (1, .i .i64 h), (5, .o 2 1), (11, .o 3 1), (12, .i .i64 n), (13, .i .i64 i)], (.n (some (.box 93 (.g 93 [.m 1]) false)) (.n (some (.sm 9 22 65 es none)) (.n (some (.row 9 1 ks nk false)) .e .e) .e) (.n (some (.row 9 1 xs nl false)) .e .e)), [1, 0], 4, some []⟩ => some (.m es h xs nl ks nk n i)
 | _ => none
theorem B9f (τ : Vm.St) (x : PEw) (h : B9e τ = some x) : τ = C3p x := by
 unfold B9e at h
 split at h <;> first | (cases h; rfl) | cases h
theorem C75 (R : Type) (of : Nat → Option Ob) (x : PEw) (K : Vm.St → Option R) (kx : Exit → Vm.St → Option R) : E5 T K18 (fun _ => none) false FU (C4 Tryz.prog 25) of R (lp (A5 Tryz.prog 25) 0) (C3p x) (H3 2 [999999, 0, 1, 5, 11, 12, 13] 1024 K kx) = BEw R x (fun x' => K (C3p x')) (C9E R kx) := by
 cases x with
 | m _ _ _ _ _ _ _ _ => kernel_rfl
def HEw : LS := H5 T K18 (fun _ => none) (C4 Tryz.prog 25) (lp (A5 Tryz.prog 25) 0) 2 [999999, 0, 1, 5, 11, 12, 13] 1024 B9e BEw C9E
theorem B9g : E4 Tryz.prog T (C4 Tryz.prog 25) 2 (lp (A5 Tryz.prog 25) 0) HEw :=
 C3 follows B9 A2G A96 B2 (A7 _) C3p B9f C75
def C9F : Nat → LC := atN 2 [(3, HEw)]
theorem A41 : G7 Tryz.prog T 25 C9F := D3 2 (List.forall_mem_cons.2 ⟨B9g.1, fun _ h => by cases h⟩) 1 (by kernel_rfl) ⟨trivial, loI (s0 := HEw) (by kernel_rfl) B9g⟩
def C3q : PAw → Vm.St
 | .m es xs nl ks nk n i => ⟨[(0, .p 0 93 []), (3, .o 2 1), (7, .o 3 1), (8, .i .i64 n), (9, .i .i64 i)], (.n (some (.box 93 (.g 93 [.m 1]) false)) (.n (some (.sm 9 22 65 es none)) (.n (some (.row 9 1 ks nk false)) .e .e) .e) (.n (some (.row 65 1 xs nl false)) .e .e)), [1, 0], 4, some []⟩
def C9G (R : Type) (kx : Exit → Vm.St → Option R) : QAw → Option R
 | .o es xs nl ks nk n i => kx (.exit 0) ⟨[(0, .p 0 93 []), (3, .o 2 1), (7, .o 3 1), (8, .i .i64 n), (9, .i .i64 i)], (.n (some (.box 93 (.g 93 [.m 1]) false)) (.n (some (.sm 9 22 65 es none)) (.n (some (.row 9 1 ks nk false)) .e .e) .e) (.n (some (.row 65 1 xs nl false)) .e .e)), [1, 0], 1024, some []⟩
def B9h : Vm.St → Option PAw
 | ⟨[(0, .p 0 93 []), (3, .o 2 1), (7, .o 3 1), (8, .i .i64 n), (9, .i .i64 i)], (.n (some (.box 93 (.g 93 [.m 1]) false)) (.n (some (.sm 9 22 65 es none)) (.n (some (.row 9 1 ks nk false)) .e .e) .e) (.n (some (.row 65 1 xs nl false)) .e .e)), [1, 0], 4, some []⟩ => some (.m es xs nl ks nk n i)
 | _ => none
theorem B9i (τ : Vm.St) (x : PAw) (h : B9h τ = some x) : τ = C3q x := by
 unfold B9h at h
 split at h <;> first | (cases h; rfl) | cases h
theorem C76 (R : Type) (of : Nat → Option Ob) (x : PAw) (K : Vm.St → Option R) (kx : Exit → Vm.St → Option R) : E5 T K18 (fun _ => none) false FU (C4 Tryz.prog 16) of R (lp (A5 Tryz.prog 16) 0) (C3q x) (H3 2 [999999, 0, 3, 7, 8, 9] 1024 K kx) = BAw R x (fun x' => K (C3q x')) (C9G R kx) := by
 cases x with
 | m _ _ _ _ _ _ _ => kernel_rfl
def HAw : LS := H5 T K18 (fun _ => none) (C4 Tryz.prog 16) (lp (A5 Tryz.prog 16) 0) 2 [999999, 0, 3, 7, 8, 9] 1024 B9h BAw C9G
theorem B9j : E4 Tryz.prog T (C4 Tryz.prog 16) 2 (lp (A5 Tryz.prog 16) 0) HAw :=
 C3 follows B9 A2G A96 B2 (A7 _) C3q B9i C76
def C9H : Nat → LC := atN 2 [(3, HAw)]
theorem A42 : G7 Tryz.prog T 16 C9H := D3 2 (List.forall_mem_cons.2 ⟨B9j.1, fun _ h => by cases h⟩) 1 (by kernel_rfl) ⟨trivial, loI (s0 := HAw) (by kernel_rfl) B9j⟩
def C40 : List (Nat × E7) := (10, trS (A0z Tryz.prog T K18 C9B false FU 10)) :: B87
theorem B9k : D6 Tryz.prog T C40 := A6x.cons (A2i (N7 A2G A4Z.nat)) (A3J (N7 A2G A4Z.nat) (A06 follows B9 A2G A96 A4Z.nat A4Z.ok).at_)
def C41 : List (Nat × E7) := (22, trS (A0z Tryz.prog T K18 C9D false FU 22)) :: C40
theorem B9l : D6 Tryz.prog T C41 := B9k.cons (A2i (N7 A2G A40.nat)) (A3J (N7 A2G A40.nat) (A06 follows B9 A2G A96 A40.nat A40.ok).at_)
def C42 : List (Nat × E7) := (25, trS (A0z Tryz.prog T K18 C9F false FU 25)) :: C41
theorem B9m : D6 Tryz.prog T C42 := B9l.cons (A2i (N7 A2G A41.nat)) (A3J (N7 A2G A41.nat) (A06 follows B9 A2G A96 A41.nat A41.ok).at_)
def B9n : List (Nat × E7) := (16, trS (A0z Tryz.prog T K18 C9H false FU 16)) :: C42
theorem A6y : D6 Tryz.prog T B9n := B9m.cons (A2i (N7 A2G A42.nat)) (A3J (N7 A2G A42.nat) (A06 follows B9 A2G A96 A42.nat A42.ok).at_)
def K22 : KC := F5 Tryz.prog T B9n false FU 4
theorem D0E : K22.nat := A9 A6y 4
theorem D0F : X2 Tryz.prog T K22.dir := B6 follows B9 A6y 4
end Go.Proofs.YtadjkmffodhmbaaGreat
namespace Go.Proofs.YtadjkmffodhmbaaGreat
open Go.Vm
set_option maxRecDepth 100000
set_option linter.unusedVariables false
def B9o : List (Nat × Sym) := [(112, (G1 T false [172, 37] (B6c (Fmx 172))).dir), (67, (G1 T false [37] (B6c (Fsm 34))).dir), (60, A4n 79 9)]
theorem B9p : C07 Tryz.prog T B9o := ⟨D6.see (D6.at A4X (by kernel_rfl)), D6.see (D6.at A4Y (by kernel_rfl)), A89 B9 A6t (by kernel_rfl) (by kernel_rfl) (enters_of Tryz.func60 (by kernel_rfl) rfl), trivial⟩
theorem B5f : ob (C08 Tryz.prog T B9o 100000 60 7 (J1 T [] []) (fun _ => none) 0) (fun out => J8 T true [.d 4] out) = some [.d 4 (.b true)] := by kernel_rfl
def B1L : E7 := G1 T true [] (gF (fun _ => true) (fun _ => [.d 4 (.b true)]))
theorem B1M : B1L.nat := A7x (B0F _ _)
theorem C9I : N3 Tryz.prog T 7 B1L.dir :=
 B2N (s := A94 (C08 Tryz.prog T B9o 100000 60 7)) (B43 _) (by rw [B44]; exact C09 follows B9 B9p) (rk := [.d 4]) (B0F _ _) rfl (fun xs rs htv hrs => by
  have hl := htv.len
  cases xs with
  | cons _ _ => cases hl
  | nil =>
   obtain ⟨_, rfl⟩ := C4J hrs
   exact B5f)
end Go.Proofs.YtadjkmffodhmbaaGreat
namespace Go.Proofs.YtadjkmffodhmbaaGreat
open Go.Vm
set_option maxRecDepth 100000
set_option linter.unusedVariables false
set_option linter.constructorNameAsVariable false
theorem C3r (bs : List V) : D9 Tryz.prog T K22 (fun _ _ => none) false FU 74 (List Rs) (J1 T [37] [.l bs]) (fun _ => none) 0 (fun out => J8 T true [.d 5, .d 37, .d 3, .d 50] out) = C8K 5 37 3 50 bs := by kernel_rfl
theorem B9q  : D9 Tryz.prog T K22 (fun _ _ => none) false FU 74 (List Rs) (J1 T [37] [.n]) (fun _ => none) 0 (fun out => J8 T true [.d 5, .d 37, .d 3, .d 50] out) = some (nxR 5 37 3 50 none) := by kernel_rfl
def B9r : List (Nat × E7) := (74, G1 T true [37] (gF nxg (nxr 5 37 3 50))) :: B9n
theorem A6z : D6 Tryz.prog T B9r := by
 refine C5 (sh := true) (rk := [.d 5, .d 37, .d 3, .d 50]) (d := 4) (fu := FU) (Lo := (fun _ _ => none)) (ds := [.slice (.int .u8)]) follows B9 A6y (by kernel_rfl) H0 40 (by kernel_rfl) (fun xs hd hg => ?_)
 obtain ⟨a, rfl, ha⟩ := W4 hd
 have hl : a.els.length ≤ 1000000 := D07 hg
 rcases ha with rfl | ⟨ys, rfl, hy⟩
 ·exact B9q
 ·obtain ⟨ns, rfl, hn⟩ := u8s hy
  rw [← C0p (x := .l (ns.map nv)) rfl]
  exact (C3r _).trans (C0q hn (by rw [← D05 (f := nv)]; exact hl))
def K23 : KC := F5 Tryz.prog T B9r false FU 4
theorem D0g : K23.nat := A9 A6z 4
theorem D0h : X2 Tryz.prog T K23.dir := B6 follows B9 A6z 4
def C3s : PNx → Vm.St
 | .m bs c h n g ss m i => ⟨[(0, .v 37 (.l bs)), (6, .i .u8 c), (7, .i .i64 h), (8, .i .i64 n), (9, .i .i64 g), (47, .v 37 (.l ss)), (48, .i .i64 m), (49, .i .i64 i)], .e, [], 0, some []⟩
def C9J (R : Type) (kx : Exit → Vm.St → Option R) : QNx → Option R
 | .o bs c h n g ss m i => kx (.exit 0) ⟨[(0, .v 37 (.l bs)), (6, .i .u8 c), (7, .i .i64 h), (8, .i .i64 n), (9, .i .i64 g), (47, .v 37 (.l ss)), (48, .i .i64 m), (49, .i .i64 i)], .e, [], 64, some []⟩
def B9s : Vm.St → Option PNx
 | ⟨[(0, .v 37 (.l bs)), (6, .i .u8 c), (7, .i .i64 h), (8, .i .i64 n), (9, .i .i64 g), (47, .v 37 (.l ss)), (48, .i .i64 m), (49, .i .i64 i)], .e, [], 0, some []⟩ => some (.m bs c h n g ss m i)
 | _ => none
theorem B9t (τ : Vm.St) (x : PNx) (h : B9s τ = some x) : τ = C3s x := by
 unfold B9s at h
 split at h <;> first | (cases h; rfl) | cases h
theorem C77 (R : Type) (of : Nat → Option Ob) (x : PNx) (K : Vm.St → Option R) (kx : Exit → Vm.St → Option R) : E5 T K23 (fun _ => none) false FU (C4 Tryz.prog 52) of R (lp (A5 Tryz.prog 52) 0) (C3s x) (H3 0 [999999, 0, 6, 7, 8, 9, 47, 48, 49] 64 K kx) = BNx R x (fun x' => K (C3s x')) (C9J R kx) := by
 cases x with
 | m _ _ _ _ _ _ _ _ => kernel_rfl
def HNx : LS := H5 T K23 (fun _ => none) (C4 Tryz.prog 52) (lp (A5 Tryz.prog 52) 0) 0 [999999, 0, 6, 7, 8, 9, 47, 48, 49] 64 B9s BNx C9J
theorem B9u : E4 Tryz.prog T (C4 Tryz.prog 52) 0 (lp (A5 Tryz.prog 52) 0) HNx :=
 C3 follows B9 D0g D0h B2 (A7 _) C3s B9t C77
def C3t : Nat → LC := atN 0 [(15, HNx)]
theorem C3u : G7 Tryz.prog T 52 C3t := D3 0 (List.forall_mem_cons.2 ⟨B9u.1, fun _ h => by cases h⟩) 1 (by kernel_rfl) ⟨trivial, loI (s0 := HNx) (by kernel_rfl) B9u⟩
theorem C3v (bs : List V) : D9 Tryz.prog T K23 C3t false FU 52 (List Rs) (J1 T [37] [.l bs]) (fun _ => none) 0 (fun out => J8 T true [.d 5, .d 37, .d 3, .d 3] out) = C8L 5 37 3 3 bs := by kernel_rfl
theorem B9v  : D9 Tryz.prog T K23 C3t false FU 52 (List Rs) (J1 T [37] [.n]) (fun _ => none) 0 (fun out => J8 T true [.d 5, .d 37, .d 3, .d 3] out) = some (nxR 5 37 3 3 none) := by kernel_rfl
def B9w : List (Nat × E7) := (52, G1 T true [37] (gF nxg (nxr 5 37 3 3))) :: B9r
theorem A6A : D6 Tryz.prog T B9w := by
 refine C5 (sh := true) (rk := [.d 5, .d 37, .d 3, .d 3]) (d := 4) (fu := FU) (Lo := C3t) (ds := [.slice (.int .u8)]) follows B9 A6z (by kernel_rfl) C3u 40 (by kernel_rfl) (fun xs hd hg => ?_)
 obtain ⟨a, rfl, ha⟩ := W4 hd
 have hl : a.els.length ≤ 1000000 := D07 hg
 rcases ha with rfl | ⟨ys, rfl, hy⟩
 ·exact B9v
 ·obtain ⟨ns, rfl, hn⟩ := u8s hy
  rw [← C0p (x := .l (ns.map nv)) rfl]
  exact (C3v _).trans (C0r hn (by rw [← D05 (f := nv)]; exact hl))
def K24 : KC := F5 Tryz.prog T B9w false FU 4
theorem D0G : K24.nat := A9 A6A 4
theorem D0H : X2 Tryz.prog T K24.dir := B6 follows B9 A6A 4
theorem C78 (bs : List V) : D9 Tryz.prog T K24 (fun _ _ => none) false FU 86 (List Rs) (J1 T [37] [.l bs]) (fun _ => none) 0 (fun out => J8 T true [.r 5] out) = dpG 5 bs := by kernel_rfl
theorem C3w  : D9 Tryz.prog T K24 (fun _ _ => none) false FU 86 (List Rs) (J1 T [37] [.n]) (fun _ => none) 0 (fun out => J8 T true [.r 5] out) = some [.r 5 ((S6 []).map nv) false] := by kernel_rfl
def B9x : List (Nat × E7) := (86, G1 T true [37] (gF psg (psr 5))) :: B9w
theorem A6B : D6 Tryz.prog T B9x := by
 refine C5 (sh := true) (rk := [.r 5]) (d := 4) (fu := FU) (Lo := (fun _ _ => none)) (ds := [.slice (.int .u8)]) follows B9 A6A (by kernel_rfl) H0 40 (by kernel_rfl) (fun xs hd hg => ?_)
 obtain ⟨a, rfl, ha⟩ := W4 hd
 have hl : a.els.length ≤ 60000 := D07 hg
 rcases ha with rfl | ⟨ys, rfl, hy⟩
 ·exact C3w
 ·obtain ⟨ns, rfl, hn⟩ := u8s hy
  refine (C78 _).trans ((C4j (by rw [← D05 (f := nv)]; exact hl)).trans ?_)
  rw [← Z4 (x := .l (ns.map nv)) rfl]; rfl
def K25 : KC := F5 Tryz.prog T B9x false FU 4
theorem D0i : K25.nat := A9 A6B 4
theorem D0j : X2 Tryz.prog T K25.dir := B6 follows B9 A6B 4
def C3x : PPs → Vm.St
 | .m xs l n i => ⟨[(5, .o 0 1), (11, .v 119 l), (12, .i .i64 n), (13, .i .i64 i)], (.n (some (.row 5 1 xs false false)) .e .e), [], 1, some []⟩
def C9K (R : Type) (kx : Exit → Vm.St → Option R) : QPs → Option R
 | .o xs l n i => kx (.exit 0) ⟨[(5, .o 0 1), (11, .v 119 l), (12, .i .i64 n), (13, .i .i64 i)], (.n (some (.row 5 1 xs false false)) .e .e), [], 64, some []⟩
def B9y : Vm.St → Option PPs
 | ⟨[(5, .o 0 1), (11, .v 119 l), (12, .i .i64 n), (13, .i .i64 i)], (.n (some (.row 5 1 xs false false)) .e .e), [], 1, some []⟩ => some (.m xs l n i)
 | _ => none
theorem B9z (τ : Vm.St) (x : PPs) (h : B9y τ = some x) : τ = C3x x := by
 unfold B9y at h
 split at h <;> first | (cases h; rfl) | cases h
theorem C79 (R : Type) (of : Nat → Option Ob) (x : PPs) (K : Vm.St → Option R) (kx : Exit → Vm.St → Option R) : E5 T K25 (fun _ => none) false FU (C4 Tryz.prog 75) of R (lp (A5 Tryz.prog 75) 0) (C3x x) (H3 0 [999999, 5, 11, 12, 13] 64 K kx) = BPs R x (fun x' => K (C3x x')) (C9K R kx) := by
 cases x with
 | m _ _ _ _ => kernel_rfl
def HPs : LS := H5 T K25 (fun _ => none) (C4 Tryz.prog 75) (lp (A5 Tryz.prog 75) 0) 0 [999999, 5, 11, 12, 13] 64 B9y BPs C9K
theorem B9A : E4 Tryz.prog T (C4 Tryz.prog 75) 0 (lp (A5 Tryz.prog 75) 0) HPs :=
 C3 follows B9 D0i D0j B2 (A7 _) C3x B9z C79
def C8a : Nat → LC := atN 0 [(3, HPs)]
theorem C3y : G7 Tryz.prog T 75 C8a := D3 0 (List.forall_mem_cons.2 ⟨B9A.1, fun _ h => by cases h⟩) 1 (by kernel_rfl) ⟨trivial, loI (s0 := HPs) (by kernel_rfl) B9A⟩
theorem C8b (bs : List V) (l : V) : D9 Tryz.prog T K25 C8a false FU 75 (List Rs) (J1 T [37, 119] [.l bs, l]) (fun _ => none) 0 (fun out => J8 T true [.r 5] out) = ppG 5 bs l := by kernel_rfl
def B9B : List (Nat × E7) := (75, G1 T true [37, 119] (gF ppg (ppr 5))) :: B9x
theorem A6C : D6 Tryz.prog T B9B := by
 refine C5 (sh := true) (rk := [.r 5]) (d := 4) (fu := FU) (Lo := C8a) (ds := [.slice (.int .u8), .slice (.slice (.int .u8))]) follows B9 A6B (by kernel_rfl) C3y 40 (by kernel_rfl) (fun xs hd hg => ?_)
 obtain ⟨a, b, rfl, ha, hb⟩ := Z6 hd
 rcases ha with rfl | ⟨ys, rfl, hy⟩
 ·exact (C9S hg).elim
 ·exact (C8b ys b).trans (C4k hb hg)
def K26 : KC := F5 Tryz.prog T B9B false FU 4
theorem D0k : K26.nat := A9 A6C 4
theorem D0l : X2 Tryz.prog T K26.dir := B6 follows B9 A6C 4
def C3z : PEq → Vm.St
 | .m a b c n i => ⟨[(0, .v 37 a), (1, .v 37 b), (4, .b false), (11, .v 37 c), (12, .i .i64 n), (13, .i .i64 i)], .e, [], 0, some []⟩
def C9L (R : Type) (kx : Exit → Vm.St → Option R) : QEq → Option R
 | .o a b c n i => kx (.exit 0) ⟨[(0, .v 37 a), (1, .v 37 b), (4, .b false), (11, .v 37 c), (12, .i .i64 n), (13, .i .i64 i)], .e, [], 64, some []⟩
 | .r a b c n i => kx (.ret) ⟨[(0, .v 37 a), (1, .v 37 b), (4, .b false), (11, .v 37 c), (12, .i .i64 n), (13, .i .i64 i)], .e, [], 64, some []⟩
def B9C : Vm.St → Option PEq
 | ⟨[(0, .v 37 a), (1, .v 37 b), (4, .b false), (11, .v 37 c), (12, .i .i64 n), (13, .i .i64 i)], .e, [], 0, some []⟩ => some (.m a b c n i)
 | _ => none
theorem B9D (τ : Vm.St) (x : PEq) (h : B9C τ = some x) : τ = C3z x := by
 unfold B9C at h
 split at h <;> first | (cases h; rfl) | cases h
theorem C8c (R : Type) (of : Nat → Option Ob) (x : PEq) (K : Vm.St → Option R) (kx : Exit → Vm.St → Option R) : E5 T K26 (fun _ => none) false FU (C4 Tryz.prog 59) of R (lp (A5 Tryz.prog 59) 0) (C3z x) (H3 0 [999999, 0, 1, 4, 11, 12, 13] 64 K kx) = BEq R x (fun x' => K (C3z x')) (C9L R kx) := by
 cases x with
 | m _ _ _ _ _ => kernel_rfl
def HEq : LS := H5 T K26 (fun _ => none) (C4 Tryz.prog 59) (lp (A5 Tryz.prog 59) 0) 0 [999999, 0, 1, 4, 11, 12, 13] 64 B9C BEq C9L
theorem B9E : E4 Tryz.prog T (C4 Tryz.prog 59) 0 (lp (A5 Tryz.prog 59) 0) HEq :=
 C3 follows B9 D0k D0l B2 (A7 _) C3z B9D C8c
def C8d : Nat → LC := atN 0 [(4, HEq)]
theorem C3A : G7 Tryz.prog T 59 C8d := D3 0 (List.forall_mem_cons.2 ⟨B9E.1, fun _ h => by cases h⟩) 1 (by kernel_rfl) ⟨trivial, loI (s0 := HEq) (by kernel_rfl) B9E⟩
theorem C8e (a b : V) : D9 Tryz.prog T K26 C8d false FU 59 (List Rs) (J1 T [37, 37] [a, b]) (fun _ => none) 0 (fun out => J8 T true [.d 4] out) = eqG 4 a b := by kernel_rfl
def B9F : List (Nat × E7) := (59, G1 T true [37, 37] (gF eqg (eqr 4))) :: B9B
theorem A6D : D6 Tryz.prog T B9F := by
 refine C5 (sh := true) (rk := [.d 4]) (d := 4) (fu := FU) (Lo := C8d) (ds := [.slice (.int .u8), .slice (.int .u8)]) follows B9 A6C (by kernel_rfl) C3A 40 (by kernel_rfl) (fun xs hd hg => ?_)
 obtain ⟨a, b, rfl, ha, hb⟩ := Z6 hd
 exact (C8e a b).trans (C4m ha hb hg)
def K27 : KC := F5 Tryz.prog T B9F false FU 4
theorem D0m : K27.nat := A9 A6D 4
theorem D0n : X2 Tryz.prog T K27.dir := B6 follows B9 A6D 4
end Go.Proofs.YtadjkmffodhmbaaGreat
namespace Go.Proofs.YtadjkmffodhmbaaGreat
open Go.Vm
set_option maxRecDepth 100000
set_option linter.unusedVariables false
set_option linter.constructorNameAsVariable false
def C3B : PPd → Vm.St
 | .m bs xs nl n i => ⟨[(0, .v 37 (.l bs)), (4, .o 0 1), (5, .o 1 1), (6, .b false), (7, .o 2 1), (12, .i .i64 n), (13, .i .i64 i)], (.n (some (.row 37 1 [] true false)) (.n (some (.row 5 1 [] true false)) .e .e) (.n (some (.row 37 1 xs nl false)) .e .e)), [], 3, some []⟩
def C9M (R : Type) (kx : Exit → Vm.St → Option R) : QPd → Option R
 | .o bs xs nl n i => kx (.exit 0) ⟨[(0, .v 37 (.l bs)), (4, .o 0 1), (5, .o 1 1), (6, .b false), (7, .o 2 1), (12, .i .i64 n), (13, .i .i64 i)], (.n (some (.row 37 1 [] true false)) (.n (some (.row 5 1 [] true false)) .e .e) (.n (some (.row 37 1 xs nl false)) .e .e)), [], 64, some []⟩
 | .r bs xs nl n i => kx (.ret) ⟨[(0, .v 37 (.l bs)), (4, .o 0 1), (5, .o 1 1), (6, .b false), (7, .o 2 1), (12, .i .i64 n), (13, .i .i64 i)], (.n (some (.row 37 1 [] true false)) (.n (some (.row 5 1 [] true false)) .e .e) (.n (some (.row 37 1 xs nl false)) .e .e)), [], 64, some []⟩
def B9G : Vm.St → Option PPd
 | ⟨[(0, .v 37 (.l bs)), (4, .o 0 1), (5, .o 1 1), (6, .b false), (7, .o 2 1), (12, .i .i64 n), (13, .i .i64 i)], (.n (some (.row 37 1 [] true false)) (.n (some (.row 5 1 [] true false)) .e .e) (.n (some (.row 37 1 xs nl false)) .e .e)), [], 3, some []⟩ => some (.m bs xs nl n i)
 | _ => none
theorem B9H (τ : Vm.St) (x : PPd) (h : B9G τ = some x) : τ = C3B x := by
 unfold B9G at h
 split at h <;> first | (cases h; rfl) | cases h
theorem C8f (R : Type) (of : Nat → Option Ob) (x : PPd) (K : Vm.St → Option R) (kx : Exit → Vm.St → Option R) : E5 T K27 (fun _ => none) false FU (C4 Tryz.prog 56) of R (lp (A5 Tryz.prog 56) 0) (C3B x) (H3 0 [999999, 0, 4, 5, 6, 7, 12, 13] 64 K kx) = BPd R x (fun x' => K (C3B x')) (C9M R kx) := by
 cases x with
 | m _ _ _ _ _ => kernel_rfl
def HPd : LS := H5 T K27 (fun _ => none) (C4 Tryz.prog 56) (lp (A5 Tryz.prog 56) 0) 0 [999999, 0, 4, 5, 6, 7, 12, 13] 64 B9G BPd C9M
theorem B9I : E4 Tryz.prog T (C4 Tryz.prog 56) 0 (lp (A5 Tryz.prog 56) 0) HPd :=
 C3 follows B9 D0m D0n B2 (A7 _) C3B B9H C8f
def B9J : Nat → LC := atN 0 [(3, HPd)]
theorem B9K : G7 Tryz.prog T 56 B9J := D3 0 (List.forall_mem_cons.2 ⟨B9I.1, fun _ h => by cases h⟩) 1 (by kernel_rfl) ⟨trivial, loI (s0 := HPd) (by kernel_rfl) B9I⟩
theorem C3C (bs : List V) (n : Int) : D9 Tryz.prog T K27 B9J false FU 56 (List Rs) (J1 T [37, 3] [.l bs, .i n]) (fun _ => none) 0 (fun out => J8 T true [.r 37, .d 37, .d 4] out) = pdG 37 37 4 bs n := by kernel_rfl
def B9L : List (Nat × E7) := (56, G1 T true [37, 3] (gF pdg (pdr 37 37 4))) :: B9F
theorem A6E : D6 Tryz.prog T B9L := by
 refine C5 (sh := true) (rk := [.r 37, .d 37, .d 4]) (d := 4) (fu := FU) (Lo := B9J) (ds := [.slice (.int .u8), .int .i64]) follows B9 A6D (by kernel_rfl) B9K 40 (by kernel_rfl) (fun xs hd hg => ?_)
 obtain ⟨a, b, rfl, ha, hb⟩ := Z6 hd
 obtain ⟨n, rfl, _⟩ := hb
 rcases ha with rfl | ⟨ys, rfl, hy⟩
 ·exact (C9T hg).elim
 ·obtain ⟨ns, rfl, hn⟩ := u8s hy
  exact (C3C _ n).trans (C4o hn hg)
def K28 : KC := F5 Tryz.prog T B9L false FU 4
theorem D0o : K28.nat := A9 A6E 4
theorem D0p : X2 Tryz.prog T K28.dir := B6 follows B9 A6E 4
def C3D : PPu → Vm.St
 | .m xs l n i => ⟨[(3, .o 0 1), (7, .v 74 l), (8, .i .i64 n), (9, .i .i64 i)], (.n (some (.row 5 1 xs false false)) .e .e), [], 1, some []⟩
def C9N (R : Type) (kx : Exit → Vm.St → Option R) : QPu → Option R
 | .o xs l n i => kx (.exit 0) ⟨[(3, .o 0 1), (7, .v 74 l), (8, .i .i64 n), (9, .i .i64 i)], (.n (some (.row 5 1 xs false false)) .e .e), [], 64, some []⟩
def B9M : Vm.St → Option PPu
 | ⟨[(3, .o 0 1), (7, .v 74 l), (8, .i .i64 n), (9, .i .i64 i)], (.n (some (.row 5 1 xs false false)) .e .e), [], 1, some []⟩ => some (.m xs l n i)
 | _ => none
theorem B9N (τ : Vm.St) (x : PPu) (h : B9M τ = some x) : τ = C3D x := by
 unfold B9M at h
 split at h <;> first | (cases h; rfl) | cases h
theorem C8g (R : Type) (of : Nat → Option Ob) (x : PPu) (K : Vm.St → Option R) (kx : Exit → Vm.St → Option R) : E5 T K28 (fun _ => none) false FU (C4 Tryz.prog 65) of R (lp (A5 Tryz.prog 65) 0) (C3D x) (H3 0 [999999, 3, 7, 8, 9] 64 K kx) = BPu R x (fun x' => K (C3D x')) (C9N R kx) := by
 cases x with
 | m _ _ _ _ => kernel_rfl
def HPu : LS := H5 T K28 (fun _ => none) (C4 Tryz.prog 65) (lp (A5 Tryz.prog 65) 0) 0 [999999, 3, 7, 8, 9] 64 B9M BPu C9N
theorem B9O : E4 Tryz.prog T (C4 Tryz.prog 65) 0 (lp (A5 Tryz.prog 65) 0) HPu :=
 C3 follows B9 D0o D0p B2 (A7 _) C3D B9N C8g
def C8h : Nat → LC := atN 0 [(3, HPu)]
theorem C3E : G7 Tryz.prog T 65 C8h := D3 0 (List.forall_mem_cons.2 ⟨B9O.1, fun _ h => by cases h⟩) 1 (by kernel_rfl) ⟨trivial, loI (s0 := HPu) (by kernel_rfl) B9O⟩
theorem C8i (l : V) : D9 Tryz.prog T K28 C8h false FU 65 (List Rs) (J1 T [74] [l]) (fun _ => none) 0 (fun out => J8 T true [.r 5] out) = puG 5 l := by kernel_rfl
def B9P : List (Nat × E7) := (65, G1 T true [74] (gF pug (pur 5))) :: B9L
theorem A6F : D6 Tryz.prog T B9P := by
 refine C5 (sh := true) (rk := [.r 5]) (d := 4) (fu := FU) (Lo := C8h) (ds := [.slice .str]) follows B9 A6E (by kernel_rfl) C3E 40 (by kernel_rfl) (fun xs hd hg => ?_)
 obtain ⟨a, rfl, ha⟩ := W4 hd
 exact (C8i a).trans (C4p ha hg)
def K29 : KC := F5 Tryz.prog T B9P false FU 4
theorem D0I : K29.nat := A9 A6F 4
theorem D0J : X2 Tryz.prog T K29.dir := B6 follows B9 A6F 4
end Go.Proofs.YtadjkmffodhmbaaGreat
namespace Go.Proofs.YtadjkmffodhmbaaGreat
open Go.Vm
set_option maxRecDepth 100000
set_option linter.unusedVariables false
set_option linter.constructorNameAsVariable false
theorem C3F (nm vl rd c : List V) : D9 Tryz.prog T K29 (fun _ _ => none) false FU 57 (List Rs) (J1 T [49] [.l [.i 1, .s nm, .s vl, .s rd, .l c]]) (fun _ => none) 0 (fun out => J8 T true [.r 5] out) = C56 5 c := by kernel_rfl
theorem C3G (nm vl rd c : List V) : D9 Tryz.prog T K29 (fun _ _ => none) false FU 57 (List Rs) (J1 T [49] [.l [.i 2, .s nm, .s vl, .s rd, .l c]]) (fun _ => none) 0 (fun out => J8 T true [.r 5] out) = C57 5 nm rd vl := by kernel_rfl
theorem C3H (nm vl rd c : List V) : D9 Tryz.prog T K29 (fun _ _ => none) false FU 57 (List Rs) (J1 T [49] [.l [.i 3, .s nm, .s vl, .s rd, .l c]]) (fun _ => none) 0 (fun out => J8 T true [.r 5] out) = C58 5 nm vl := by kernel_rfl
def B9Q : List (Nat × E7) := (57, G1 T true [49] (gF dkg (wdr 5))) :: B9P
theorem A6G : D6 Tryz.prog T B9Q := by
 refine C5 (sh := true) (rk := [.r 5]) (d := 4) (fu := FU) (Lo := (fun _ _ => none)) (ds := [B2E]) follows B9 A6F (by kernel_rfl) H0 40 (by kernel_rfl) (fun xs hd hg => ?_)
 obtain ⟨a, rfl, ha⟩ := W4 hd
 obtain ⟨k, nm, vl, rd, c, rfl, _, _, _, _, _, hcl⟩ := B0X ha
 have hdk : dkB (.l [.i k, .s (nm.map nv), .s (vl.map nv), .s (rd.map nv), .l (c.map nv)]) = true := hg
 obtain ⟨l1, l2, l3⟩ := B0Y hdk
 rcases A5L hdk with rfl | rfl | rfl
 ·exact (C3F (nm.map nv) (vl.map nv) (rd.map nv) (c.map nv)).trans (B6L hcl)
 ·exact (C3G (nm.map nv) (vl.map nv) (rd.map nv) (c.map nv)).trans (B6M l1 l3 l2)
 ·exact (C3H (nm.map nv) (vl.map nv) (rd.map nv) (c.map nv)).trans (B6N l1 l2)
def K30 : KC := F5 Tryz.prog T B9Q false FU 4
theorem D0K : K30.nat := A9 A6G 4
theorem D0L : X2 Tryz.prog T K30.dir := B6 follows B9 A6G 4
theorem C3I (nm vl rd c : List V) : D9 Tryz.prog T K30 (fun _ _ => none) false FU 58 (List Rs) (J1 T [49] [.l [.i 1, .s nm, .s vl, .s rd, .l c]]) (fun _ => none) 0 (fun out => J8 T true [.d 4] out) = C59 4 nm rd vl := by kernel_rfl
theorem C3J (nm vl rd c : List V) : D9 Tryz.prog T K30 (fun _ _ => none) false FU 58 (List Rs) (J1 T [49] [.l [.i 2, .s nm, .s vl, .s rd, .l c]]) (fun _ => none) 0 (fun out => J8 T true [.d 4] out) = C6a 4 nm rd vl (.l c) := by kernel_rfl
theorem C3K (nm vl rd c : List V) : D9 Tryz.prog T K30 (fun _ _ => none) false FU 58 (List Rs) (J1 T [49] [.l [.i 3, .s nm, .s vl, .s rd, .l c]]) (fun _ => none) 0 (fun out => J8 T true [.d 4] out) = C6b 4 nm rd vl (.l c) := by kernel_rfl
def B9R : List (Nat × E7) := (58, G1 T true [49] (gF dkg (C96 4))) :: B9Q
theorem A6H : D6 Tryz.prog T B9R := by
 refine C5 (sh := true) (rk := [.d 4]) (d := 4) (fu := FU) (Lo := (fun _ _ => none)) (ds := [B2E]) follows B9 A6G (by kernel_rfl) H0 40 (by kernel_rfl) (fun xs hd hg => ?_)
 obtain ⟨a, rfl, ha⟩ := W4 hd
 obtain ⟨k, nm, vl, rd, c, rfl, _, _, _, _, _, hcl⟩ := B0X ha
 have hdk : dkB (.l [.i k, .s (nm.map nv), .s (vl.map nv), .s (rd.map nv), .l (c.map nv)]) = true := hg
 obtain ⟨l1, l2, l3⟩ := B0Y hdk
 rcases A5L hdk with rfl | rfl | rfl
 ·exact (C3I (nm.map nv) (vl.map nv) (rd.map nv) (c.map nv)).trans (B6Q l1 l3 l2)
 ·exact (C3J (nm.map nv) (vl.map nv) (rd.map nv) (c.map nv)).trans (B6R l1 l3 l2)
 ·exact (C3K (nm.map nv) (vl.map nv) (rd.map nv) (c.map nv)).trans (B6S l1 l3 l2)
def K31 : KC := F5 Tryz.prog T B9R false FU 4
theorem D0M : K31.nat := A9 A6H 4
theorem D0N : X2 Tryz.prog T K31.dir := B6 follows B9 A6H 4
theorem C3L (nm vl rd c : List V) : D9 Tryz.prog T K31 (fun _ _ => none) false FU 48 (List Rs) (J1 T [49, 37] [.l [.i 1, .s nm, .s vl, .s rd, .l c], .n]) (fun _ => none) 0 (fun out => J8 T true [.r 5, .d 3] out) = C6c 5 3 nm rd vl c := by kernel_rfl
theorem C3M (nm vl rd c : List V) : D9 Tryz.prog T K31 (fun _ _ => none) false FU 48 (List Rs) (J1 T [49, 37] [.l [.i 2, .s nm, .s vl, .s rd, .l c], .n]) (fun _ => none) 0 (fun out => J8 T true [.r 5, .d 3] out) = C6d 5 3 nm rd vl (.l c) := by kernel_rfl
theorem C3N (nm vl rd c : List V) : D9 Tryz.prog T K31 (fun _ _ => none) false FU 48 (List Rs) (J1 T [49, 37] [.l [.i 3, .s nm, .s vl, .s rd, .l c], .n]) (fun _ => none) 0 (fun out => J8 T true [.r 5, .d 3] out) = C6e 5 3 nm rd vl (.l c) := by kernel_rfl
def B9S : List (Nat × E7) := (48, G1 T true [49, 37] (gF lkg (lkr 5 3))) :: B9R
theorem A6I : D6 Tryz.prog T B9S := by
 refine C5 (sh := true) (rk := [.r 5, .d 3]) (d := 4) (fu := FU) (Lo := (fun _ _ => none)) (ds := [B2E, .slice (.int .u8)]) follows B9 A6H (by kernel_rfl) H0 40 (by kernel_rfl) (fun xs hd hg => ?_)
 obtain ⟨a, b, rfl, ha, hb⟩ := Z6 hd
 have hg2 : dkB a = true ∧ isN b = true := by simpa [lkg] using hg
 obtain rfl : b = .n := by rcases hb with rfl | ⟨ys, rfl, _⟩; rfl; exact absurd hg2.2 (by simp [isN])
 obtain ⟨k, nm, vl, rd, c, rfl, _, _, _, _, _, hcl⟩ := B0X ha
 have hdk : dkB (.l [.i k, .s (nm.map nv), .s (vl.map nv), .s (rd.map nv), .l (c.map nv)]) = true := hg2.1
 obtain ⟨l1, l2, l3⟩ := B0Y hdk
 rcases A5L hdk with rfl | rfl | rfl
 ·exact (C3L (nm.map nv) (vl.map nv) (rd.map nv) (c.map nv)).trans (B6U hcl)
 ·exact (C3M (nm.map nv) (vl.map nv) (rd.map nv) (c.map nv)).trans (B6V l1 l3 l2)
 ·exact (C3N (nm.map nv) (vl.map nv) (rd.map nv) (c.map nv)).trans (B6W l1 l3 l2)
def K32 : KC := F5 Tryz.prog T B9S false FU 4
theorem C8j : K32.nat := A9 A6I 4
theorem C8k : X2 Tryz.prog T K32.dir := B6 follows B9 A6I 4
end Go.Proofs.YtadjkmffodhmbaaGreat
namespace Go.Proofs.YtadjkmffodhmbaaGreat
open Go.Vm
set_option maxRecDepth 100000
set_option linter.unusedVariables false
set_option linter.constructorNameAsVariable false
def B3g : B5n → Vm.St
 | .m bs z e xs a => ⟨[(0, .v 37 (.l bs)), (2, .p 0 49 []), (3, .o 1 1), (4, .i .i64 0), (5, .p 2 49 []), (6, .o 3 1), (7, .i .i64 a)], (.n (some (.box 49 (.v 49 z) false)) (.n (some (.row 5 1 [] true false)) (.n (some (.row 9 1 xs false false)) .e .e) .e) (.n (some (.box 49 (.v 49 e) false)) .e .e)), [], 4, some []⟩
def C43 (R : Type) (kx : Exit → Vm.St → Option R) : C8O → Option R
 | .o bs z e xs a => kx (.exit 0) ⟨[(0, .v 37 (.l bs)), (2, .p 0 49 []), (3, .o 1 1), (4, .i .i64 0), (5, .p 2 49 []), (6, .o 3 1), (7, .i .i64 a)], (.n (some (.box 49 (.v 49 z) false)) (.n (some (.row 5 1 [] true false)) (.n (some (.row 9 1 xs false false)) .e .e) .e) (.n (some (.box 49 (.v 49 e) false)) .e .e)), [], 64, some []⟩
def B1N : Vm.St → Option B5n
 | ⟨[(0, .v 37 (.l bs)), (2, .p 0 49 []), (3, .o 1 1), (4, .i .i64 0), (5, .p 2 49 []), (6, .o 3 1), (7, .i .i64 a)], (.n (some (.box 49 (.v 49 z) false)) (.n (some (.row 5 1 [] true false)) (.n (some (.row 9 1 xs false false)) .e .e) .e) (.n (some (.box 49 (.v 49 e) false)) .e .e)), [], 4, some []⟩ => some (.m bs z e xs a)
 | _ => none
theorem B5g (τ : Vm.St) (x : B5n) (h : B1N τ = some x) : τ = B3g x := by
 unfold B1N at h
 split at h <;> first | (cases h; rfl) | cases h
theorem C3O (R : Type) (of : Nat → Option Ob) (x : B5n) (K : Vm.St → Option R) (kx : Exit → Vm.St → Option R) : E5 T K32 (fun _ => none) false FU (C4 Tryz.prog 39) of R (lp (A5 Tryz.prog 39) 0) (B3g x) (H3 0 [999999, 0, 2, 3, 4, 5, 6, 7] 64 K kx) = C0t R x (fun x' => K (B3g x')) (C43 R kx) := by
 cases x with
 | m _ _ _ _ _ => kernel_rfl
def C8l : LS := H5 T K32 (fun _ => none) (C4 Tryz.prog 39) (lp (A5 Tryz.prog 39) 0) 0 [999999, 0, 2, 3, 4, 5, 6, 7] 64 B1N C0t C43
theorem B3h : E4 Tryz.prog T (C4 Tryz.prog 39) 0 (lp (A5 Tryz.prog 39) 0) C8l :=
 C3 follows B9 C8j C8k B2 (A7 _) B3g B5g C3O
def B3i : B5o → Vm.St
 | .m bs z e xs => ⟨[(0, .v 37 (.l bs)), (2, .p 0 49 []), (3, .o 1 1), (4, .i .i64 0), (5, .p 2 49 []), (6, .o 3 1)], (.n (some (.box 49 (.v 49 z) false)) (.n (some (.row 5 1 [] true false)) (.n (some (.row 9 1 xs false false)) .e .e) .e) (.n (some (.box 49 (.v 49 e) false)) .e .e)), [], 4, some []⟩
def C44 (R : Type) (kx : Exit → Vm.St → Option R) : C8P → Option R
 | .o bs z e xs => kx (.exit 2) ⟨[(0, .v 37 (.l bs)), (2, .p 0 49 []), (3, .o 1 1), (4, .i .i64 0), (5, .p 2 49 []), (6, .o 3 1)], (.n (some (.box 49 (.v 49 z) false)) (.n (some (.row 5 1 [] true false)) (.n (some (.row 9 1 xs false false)) .e .e) .e) (.n (some (.box 49 (.v 49 e) false)) .e .e)), [], 128, some []⟩
def B1O : Vm.St → Option B5o
 | ⟨[(0, .v 37 (.l bs)), (2, .p 0 49 []), (3, .o 1 1), (4, .i .i64 0), (5, .p 2 49 []), (6, .o 3 1)], (.n (some (.box 49 (.v 49 z) false)) (.n (some (.row 5 1 [] true false)) (.n (some (.row 9 1 xs false false)) .e .e) .e) (.n (some (.box 49 (.v 49 e) false)) .e .e)), [], 4, some []⟩ => some (.m bs z e xs)
 | _ => none
theorem B5h (τ : Vm.St) (x : B5o) (h : B1O τ = some x) : τ = B3i x := by
 unfold B1O at h
 split at h <;> first | (cases h; rfl) | cases h
theorem C3P (R : Type) (of : Nat → Option Ob) (x : B5o) (K : Vm.St → Option R) (kx : Exit → Vm.St → Option R) : E5 T K32 (fun _ => none) false FU (C4 Tryz.prog 39) of R (lp (A5 Tryz.prog 39) 1) (B3i x) (H3 0 [999999, 0, 2, 3, 4, 5, 6] 128 K kx) = B5p R x (fun x' => K (B3i x')) (C44 R kx) := by
 cases x with
 | m _ _ _ _ => kernel_rfl
def C8m : LS := H5 T K32 (fun _ => none) (C4 Tryz.prog 39) (lp (A5 Tryz.prog 39) 1) 0 [999999, 0, 2, 3, 4, 5, 6] 128 B1O B5p C44
theorem B3j : E4 Tryz.prog T (C4 Tryz.prog 39) 0 (lp (A5 Tryz.prog 39) 1) C8m :=
 C3 follows B9 C8j C8k B2 (A7 _) B3i B5h C3P
def B3k : B5q → Vm.St
 | .m bs z e xs i => ⟨[(0, .v 37 (.l bs)), (2, .p 0 49 []), (3, .o 1 1), (4, .i .i64 0), (5, .p 2 49 []), (6, .o 3 1), (85, .i .i64 i)], (.n (some (.box 49 (.v 49 z) false)) (.n (some (.row 5 1 [] true false)) (.n (some (.row 9 1 xs false false)) .e .e) .e) (.n (some (.box 49 (.v 49 e) false)) .e .e)), [], 4, some []⟩
def C45 (R : Type) (kx : Exit → Vm.St → Option R) : C8Q → Option R
 | .o bs z e xs i => kx (.exit 5) ⟨[(0, .v 37 (.l bs)), (2, .p 0 49 []), (3, .o 1 1), (4, .i .i64 0), (5, .p 2 49 []), (6, .o 3 1), (85, .i .i64 i)], (.n (some (.box 49 (.v 49 z) false)) (.n (some (.row 5 1 [] true false)) (.n (some (.row 9 1 xs false false)) .e .e) .e) (.n (some (.box 49 (.v 49 e) false)) .e .e)), [], 256, some []⟩
def B1P : Vm.St → Option B5q
 | ⟨[(0, .v 37 (.l bs)), (2, .p 0 49 []), (3, .o 1 1), (4, .i .i64 0), (5, .p 2 49 []), (6, .o 3 1), (85, .i .i64 i)], (.n (some (.box 49 (.v 49 z) false)) (.n (some (.row 5 1 [] true false)) (.n (some (.row 9 1 xs false false)) .e .e) .e) (.n (some (.box 49 (.v 49 e) false)) .e .e)), [], 4, some []⟩ => some (.m bs z e xs i)
 | _ => none
theorem B5i (τ : Vm.St) (x : B5q) (h : B1P τ = some x) : τ = B3k x := by
 unfold B1P at h
 split at h <;> first | (cases h; rfl) | cases h
theorem C3Q (R : Type) (of : Nat → Option Ob) (x : B5q) (K : Vm.St → Option R) (kx : Exit → Vm.St → Option R) : E5 T K32 (fun _ => none) false FU (C4 Tryz.prog 39) of R (lp (A5 Tryz.prog 39) 2) (B3k x) (H3 0 [999999, 0, 2, 3, 4, 5, 6, 85] 256 K kx) = B11 R x (fun x' => K (B3k x')) (C45 R kx) := by
 cases x with
 | m _ _ _ _ _ => kernel_rfl
def C8n : LS := H5 T K32 (fun _ => none) (C4 Tryz.prog 39) (lp (A5 Tryz.prog 39) 2) 0 [999999, 0, 2, 3, 4, 5, 6, 85] 256 B1P B11 C45
theorem B3l : E4 Tryz.prog T (C4 Tryz.prog 39) 0 (lp (A5 Tryz.prog 39) 2) C8n :=
 C3 follows B9 C8j C8k B2 (A7 _) B3k B5i C3Q
def B3m : Nat → LC := atN 0 [(6, C8l), (11, C8m), (18, C8n)]
theorem B9T : G7 Tryz.prog T 39 B3m := D3 0 (List.forall_mem_cons.2 ⟨B3h.1, List.forall_mem_cons.2 ⟨B3j.1, List.forall_mem_cons.2 ⟨B3l.1, fun _ h => by cases h⟩⟩⟩) 3 (by kernel_rfl) ⟨⟨⟨trivial, loI (s0 := C8l) (by kernel_rfl) B3h⟩, loI (s0 := C8m) (by kernel_rfl) B3j⟩, loI (s0 := C8n) (by kernel_rfl) B3l⟩
theorem C3R (bs : List V) : D9 Tryz.prog T K32 B3m false FU 39 (List Rs) (J1 T [37] [.l bs]) (fun _ => none) 0 (fun out => J8 T true [.d 49, .r 5, .d 3] out) = C6g 49 5 3 bs := by kernel_rfl
theorem B9U  : D9 Tryz.prog T K32 B3m false FU 39 (List Rs) (J1 T [37] [.n]) (fun _ => none) 0 (fun out => J8 T true [.d 49, .r 5, .d 3] out) = some (spr 49 5 3 false [.n]) := by kernel_rfl
def B9V : List (Nat × E7) := (39, G1 T true [37] (gF spg (spr 49 5 3 false))) :: B9S
theorem A6J : D6 Tryz.prog T B9V := by
 refine C5 (sh := true) (rk := [.d 49, .r 5, .d 3]) (d := 4) (fu := FU) (Lo := B3m) (ds := [.slice (.int .u8)]) follows B9 A6I (by kernel_rfl) B9T 40 (by kernel_rfl) (fun xs hd hg => ?_)
 obtain ⟨a, rfl, ha⟩ := W4 hd
 have hl : a.els.length ≤ 30000 := D07 hg
 rcases ha with rfl | ⟨ys, rfl, hy⟩
 ·exact B9U
 ·obtain ⟨ns, rfl, hn⟩ := u8s hy
  exact (C3R _).trans (B61 hn (by rw [← D05 (f := nv)]; exact hl))
def K33 : KC := F5 Tryz.prog T B9V false FU 4
theorem D0O : K33.nat := A9 A6J 4
theorem D0P : X2 Tryz.prog T K33.dir := B6 follows B9 A6J 4
theorem C3S (bs : List V) : D9 Tryz.prog T K33 (fun _ _ => none) false FU 41 (List Rs) (J1 T [37] [.l bs]) (fun _ => none) 0 (fun out => J8 T true [.d 49, .r 5, .d 50] out) = C6f 49 5 50 bs := by kernel_rfl
theorem B9W  : D9 Tryz.prog T K33 (fun _ _ => none) false FU 41 (List Rs) (J1 T [37] [.n]) (fun _ => none) 0 (fun out => J8 T true [.d 49, .r 5, .d 50] out) = some (spr 49 5 50 true [.n]) := by kernel_rfl
def B9X : List (Nat × E7) := (41, G1 T true [37] (gF spg (spr 49 5 50 true))) :: B9V
theorem A6K : D6 Tryz.prog T B9X := by
 refine C5 (sh := true) (rk := [.d 49, .r 5, .d 50]) (d := 4) (fu := FU) (Lo := (fun _ _ => none)) (ds := [.slice (.int .u8)]) follows B9 A6J (by kernel_rfl) H0 40 (by kernel_rfl) (fun xs hd hg => ?_)
 obtain ⟨a, rfl, ha⟩ := W4 hd
 have hl : a.els.length ≤ 30000 := D07 hg
 rcases ha with rfl | ⟨ys, rfl, hy⟩
 ·exact B9W
 ·obtain ⟨ns, rfl, hn⟩ := u8s hy
  exact (C3S _).trans (B6Y hn (by rw [← D05 (f := nv)]; exact hl))
def K34 : KC := F5 Tryz.prog T B9X false FU 4
theorem B1Q : K34.nat := A9 A6K 4
theorem B9Y : X2 Tryz.prog T K34.dir := B6 follows B9 A6K 4
end Go.Proofs.YtadjkmffodhmbaaGreat
namespace Go.Proofs.YtadjkmffodhmbaaGreat
open Go.Vm
set_option maxRecDepth 100000
set_option linter.unusedVariables false
set_option linter.constructorNameAsVariable false
def C3T : PHi → Vm.St
 | .b s m l xs n i nl sh => ⟨[(0, .p 0 175 []), (6, .v 119 (.l l)), (7, .i .i64 n), (8, .i .i64 i)], (.n (some (.box 175 (.g 175 [.v 172 s, .o 1 1, .i .u64 m]) false)) (.n (some (.row 5 1 xs nl sh)) .e .e) .e), [0], 2, some []⟩
 | .c s m l xs n i off q sh => ⟨[(0, .p 0 175 []), (6, .v 119 (.l l)), (7, .i .i64 n), (8, .i .i64 i)], (.n (some (.box 175 (.g 175 [.v 172 s, .w 1 1 off q, .i .u64 m]) false)) (.n (some (.row 5 1 xs false sh)) .e .e) .e), [0], 2, some []⟩
def C9O (R : Type) (kx : Exit → Vm.St → Option R) : QHi → Option R
 | .b s m l xs n i nl sh => kx (.exit 2) ⟨[(0, .p 0 175 []), (6, .v 119 (.l l)), (7, .i .i64 n), (8, .i .i64 i)], (.n (some (.box 175 (.g 175 [.v 172 s, .o 1 1, .i .u64 m]) false)) (.n (some (.row 5 1 xs nl sh)) .e .e) .e), [0], 16, some []⟩
 | .c s m l xs n i off q sh => kx (.exit 2) ⟨[(0, .p 0 175 []), (6, .v 119 (.l l)), (7, .i .i64 n), (8, .i .i64 i)], (.n (some (.box 175 (.g 175 [.v 172 s, .w 1 1 off q, .i .u64 m]) false)) (.n (some (.row 5 1 xs false sh)) .e .e) .e), [0], 16, some []⟩
def B9Z : Vm.St → Option PHi
 | ⟨[(0, .p 0 175 []), (6, .v 119 (.l l)), (7, .i .i64 n), (8, .i .i64 i)], (.n (some (.box 175 (.g 175 [.v 172 s, .o 1 1, .i .u64 m]) false)) (.n (some (.row 5 1 xs nl sh)) .e .e) .e), [0], 2, some []⟩ => some (.b s m l xs n i nl sh)
 | ⟨[(0, .p 0 175 []), (6, .v 119 (.l l)), (7, .i .i64 n), (8, .i .i64 i)], (.n (some (.box 175 (.g 175 [.v 172 s, .w 1 1 off q, .i .u64 m]) false)) (.n (some (.row 5 1 xs false sh)) .e .e) .e), [0], 2, some []⟩ => some (.c s m l xs n i off q sh)
 | _ => none
theorem B90 (τ : Vm.St) (x : PHi) (h : B9Z τ = some x) : τ = C3T x := by
 unfold B9Z at h
 split at h <;> first | (cases h; rfl) | cases h
theorem C8o (R : Type) (of : Nat → Option Ob) (x : PHi) (K : Vm.St → Option R) (kx : Exit → Vm.St → Option R) : E5 T K34 (fun _ => none) false FU (C4 Tryz.prog 95) of R (lp (A5 Tryz.prog 95) 1) (C3T x) (H3 1 [0, 6, 7, 8] 16 K kx) = BHi R x (fun x' => K (C3T x')) (C9O R kx) := by
 cases x with
 | b _ _ _ _ _ _ nl _ => cases nl <;> kernel_rfl
 | c _ _ _ _ _ _ _ _ _ => kernel_rfl
def HHi : LS := H5 T K34 (fun _ => none) (C4 Tryz.prog 95) (lp (A5 Tryz.prog 95) 1) 1 [0, 6, 7, 8] 16 B9Z BHi C9O
theorem A8S : E4 Tryz.prog T (C4 Tryz.prog 95) 1 (lp (A5 Tryz.prog 95) 1) HHi :=
 C3 follows B9 B1Q B9Y B2 (A7 _) C3T B90 C8o
def B1R : PHo → Vm.St
 | .a s m l n i => ⟨[(0, .p 0 175 []), (6, .v 119 (.l l)), (7, .i .i64 n), (8, .i .i64 i)], (.n (some (.box 175 (.v 175 (.l [s, .n, .i m])) false)) .e .e), [0], 1, some []⟩
 | .b s m l xs n i nl sh => ⟨[(0, .p 0 175 []), (6, .v 119 (.l l)), (7, .i .i64 n), (8, .i .i64 i)], (.n (some (.box 175 (.g 175 [.v 172 s, .o 1 1, .i .u64 m]) false)) (.n (some (.row 5 1 xs nl sh)) .e .e) .e), [0], 2, some []⟩
 | .c s m l xs n i off q sh => ⟨[(0, .p 0 175 []), (6, .v 119 (.l l)), (7, .i .i64 n), (8, .i .i64 i)], (.n (some (.box 175 (.g 175 [.v 172 s, .w 1 1 off q, .i .u64 m]) false)) (.n (some (.row 5 1 xs false sh)) .e .e) .e), [0], 2, some []⟩
def C9P (R : Type) (kx : Exit → Vm.St → Option R) : QHo → Option R
 | .a s m l n i => kx (.exit 0) ⟨[(0, .p 0 175 []), (6, .v 119 (.l l)), (7, .i .i64 n), (8, .i .i64 i)], (.n (some (.box 175 (.v 175 (.l [s, .n, .i m])) false)) .e .e), [0], 64, some []⟩
 | .b s m l xs n i nl sh => kx (.exit 0) ⟨[(0, .p 0 175 []), (6, .v 119 (.l l)), (7, .i .i64 n), (8, .i .i64 i)], (.n (some (.box 175 (.g 175 [.v 172 s, .o 1 1, .i .u64 m]) false)) (.n (some (.row 5 1 xs nl sh)) .e .e) .e), [0], 64, some []⟩
 | .c s m l xs n i off q sh => kx (.exit 0) ⟨[(0, .p 0 175 []), (6, .v 119 (.l l)), (7, .i .i64 n), (8, .i .i64 i)], (.n (some (.box 175 (.g 175 [.v 172 s, .w 1 1 off q, .i .u64 m]) false)) (.n (some (.row 5 1 xs false sh)) .e .e) .e), [0], 64, some []⟩
def A43 : Vm.St → Option PHo
 | ⟨[(0, .p 0 175 []), (6, .v 119 (.l l)), (7, .i .i64 n), (8, .i .i64 i)], (.n (some (.box 175 (.v 175 (.l [s, .n, .i m])) false)) .e .e), [0], 1, some []⟩ => some (.a s m l n i)
 | _ => none
theorem B1S (τ : Vm.St) (x : PHo) (h : A43 τ = some x) : τ = B1R x := by
 unfold A43 at h
 split at h <;> first | (cases h; rfl) | cases h
def A44 : Vm.St → Option PHo
 | ⟨[(0, .p 0 175 []), (6, .v 119 (.l l)), (7, .i .i64 n), (8, .i .i64 i)], (.n (some (.box 175 (.g 175 [.v 172 s, .o 1 1, .i .u64 m]) false)) (.n (some (.row 5 1 xs nl sh)) .e .e) .e), [0], 2, some []⟩ => some (.b s m l xs n i nl sh)
 | _ => none
theorem B1T (τ : Vm.St) (x : PHo) (h : A44 τ = some x) : τ = B1R x := by
 unfold A44 at h
 split at h <;> first | (cases h; rfl) | cases h
def A45 : Vm.St → Option PHo
 | ⟨[(0, .p 0 175 []), (6, .v 119 (.l l)), (7, .i .i64 n), (8, .i .i64 i)], (.n (some (.box 175 (.g 175 [.v 172 s, .w 1 1 off q, .i .u64 m]) false)) (.n (some (.row 5 1 xs false sh)) .e .e) .e), [0], 2, some []⟩ => some (.c s m l xs n i off q sh)
 | _ => none
theorem B1U (τ : Vm.St) (x : PHo) (h : A45 τ = some x) : τ = B1R x := by
 unfold A45 at h
 split at h <;> first | (cases h; rfl) | cases h
def B91 (τ : Vm.St) : Option PHo := oc (A43 τ) some (oc (A44 τ) some (oc (A45 τ) some (none)))
theorem B92 (τ : Vm.St) (x : PHo) (h : B91 τ = some x) : τ = B1R x := by
 unfold B91 at h
 cases h0 : A43 τ with
 | some y => rw [h0] at h; cases h; exact B1S τ _ h0
 | none =>
 rw [h0] at h; simp only [oc] at h
 cases h1 : A44 τ with
 | some y => rw [h1] at h; cases h; exact B1T τ _ h1
 | none =>
 rw [h1] at h; simp only [oc] at h
 cases h2 : A45 τ with
 | some y => rw [h2] at h; cases h; exact B1U τ _ h2
 | none =>
 rw [h2] at h; simp only [oc] at h
 cases h
theorem C8p (R : Type) (of : Nat → Option Ob) (x : PHo) (K : Vm.St → Option R) (kx : Exit → Vm.St → Option R) : E5 T K34 (loT [(5, HHi)]) false FU (C4 Tryz.prog 95) of R (lp (A5 Tryz.prog 95) 0) (B1R x) (H3 1 [0, 6, 7, 8] 64 K kx) = BHo R x (fun x' => K (B1R x')) (C9P R kx) := by
 cases x with
 | a _ _ _ _ _ => kernel_rfl
 | b _ _ _ _ _ _ _ _ => kernel_rfl
 | c _ _ _ _ _ _ _ _ _ => kernel_rfl
def HHo : LS := H5 T K34 (loT [(5, HHi)]) (C4 Tryz.prog 95) (lp (A5 Tryz.prog 95) 0) 1 [0, 6, 7, 8] 64 B91 BHo C9P
theorem B93 : E4 Tryz.prog T (C4 Tryz.prog 95) 1 (lp (A5 Tryz.prog 95) 0) HHo :=
 C3 follows B9 B1Q B9Y (A4Q (List.forall_mem_cons.2 ⟨A8S.1, fun _ h => by cases h⟩)) (A1G 1 (by kernel_rfl) ⟨trivial, loI (s0 := HHi) (by kernel_rfl) ((show lp (lp (A5 Tryz.prog 95) 0) 0 = lp (A5 Tryz.prog 95) 1 from by kernel_rfl) ▸ A8S)⟩) B1R B92 C8p
def C46 : Nat → LC := atN 1 [(1, HHo), (5, HHi)]
theorem B94 : G7 Tryz.prog T 95 C46 := D3 1 (List.forall_mem_cons.2 ⟨B93.1, List.forall_mem_cons.2 ⟨A8S.1, fun _ h => by cases h⟩⟩) 2 (by kernel_rfl) ⟨⟨trivial, loI (s0 := HHo) (by kernel_rfl) B93⟩, loI (s0 := HHi) (by kernel_rfl) A8S⟩
def C3U : PHp → Vm.St
 | .b s m rs nl sh z xs => ⟨[(0, .p 0 175 []), (2, .p 2 34 []), (3, .o 3 1)], (.n (some (.box 175 (.g 175 [.v 172 s, .o 1 1, .i .u64 m]) false)) (.n (some (.row 5 1 rs nl sh)) (.n (some (.row 5 1 xs false false)) .e .e) .e) (.n (some (.box 34 (.v 34 z) false)) .e .e)), [1, 0], 4, some []⟩
 | .c s m rs off q sh z xs => ⟨[(0, .p 0 175 []), (2, .p 2 34 []), (3, .o 3 1)], (.n (some (.box 175 (.g 175 [.v 172 s, .w 1 1 off q, .i .u64 m]) false)) (.n (some (.row 5 1 rs false sh)) (.n (some (.row 5 1 xs false false)) .e .e) .e) (.n (some (.box 34 (.v 34 z) false)) .e .e)), [1, 0], 4, some []⟩
def C9Q (R : Type) (kx : Exit → Vm.St → Option R) : QHp → Option R
 | .b s m rs nl sh z xs => kx (.exit 0) ⟨[(0, .p 0 175 []), (2, .p 2 34 []), (3, .o 3 1)], (.n (some (.box 175 (.g 175 [.v 172 s, .o 1 1, .i .u64 m]) false)) (.n (some (.row 5 1 rs nl sh)) (.n (some (.row 5 1 xs false false)) .e .e) .e) (.n (some (.box 34 (.v 34 z) false)) .e .e)), [1, 0], 16, some []⟩
 | .c s m rs off q sh z xs => kx (.exit 0) ⟨[(0, .p 0 175 []), (2, .p 2 34 []), (3, .o 3 1)], (.n (some (.box 175 (.g 175 [.v 172 s, .w 1 1 off q, .i .u64 m]) false)) (.n (some (.row 5 1 rs false sh)) (.n (some (.row 5 1 xs false false)) .e .e) .e) (.n (some (.box 34 (.v 34 z) false)) .e .e)), [1, 0], 16, some []⟩
def B95 : Vm.St → Option PHp
 | ⟨[(0, .p 0 175 []), (2, .p 2 34 []), (3, .o 3 1)], (.n (some (.box 175 (.g 175 [.v 172 s, .o 1 1, .i .u64 m]) false)) (.n (some (.row 5 1 rs nl sh)) (.n (some (.row 5 1 xs false false)) .e .e) .e) (.n (some (.box 34 (.v 34 z) false)) .e .e)), [1, 0], 4, some []⟩ => some (.b s m rs nl sh z xs)
 | ⟨[(0, .p 0 175 []), (2, .p 2 34 []), (3, .o 3 1)], (.n (some (.box 175 (.g 175 [.v 172 s, .w 1 1 off q, .i .u64 m]) false)) (.n (some (.row 5 1 rs false sh)) (.n (some (.row 5 1 xs false false)) .e .e) .e) (.n (some (.box 34 (.v 34 z) false)) .e .e)), [1, 0], 4, some []⟩ => some (.c s m rs off q sh z xs)
 | _ => none
theorem B96 (τ : Vm.St) (x : PHp) (h : B95 τ = some x) : τ = C3U x := by
 unfold B95 at h
 split at h <;> first | (cases h; rfl) | cases h
theorem C8q (R : Type) (of : Nat → Option Ob) (x : PHp) (K : Vm.St → Option R) (kx : Exit → Vm.St → Option R) : E5 T K34 (fun _ => none) false FU (C4 Tryz.prog 96) of R (lp (A5 Tryz.prog 96) 0) (C3U x) (H3 2 [0, 2, 3] 16 K kx) = BHp R x (fun x' => K (C3U x')) (C9Q R kx) := by
 cases x with
 | b _ _ _ _ _ _ _ => kernel_rfl
 | c _ _ _ _ _ _ _ _ => kernel_rfl
def HHp : LS := H5 T K34 (fun _ => none) (C4 Tryz.prog 96) (lp (A5 Tryz.prog 96) 0) 2 [0, 2, 3] 16 B95 BHp C9Q
theorem B97 : E4 Tryz.prog T (C4 Tryz.prog 96) 2 (lp (A5 Tryz.prog 96) 0) HHp :=
 C3 follows B9 B1Q B9Y B2 (A7 _) C3U B96 C8q
def A97 : PHm → Vm.St
 | .b0 s m rs nl sh z st xs => ⟨[(2, .p 2 34 []), (3, .o 3 1), (6, .p 24 172 [])], (.n (some (.box 175 (.g 175 [.v 172 s, .o 1 1, .i .u64 m]) false)) (.n (some (.row 5 1 rs nl sh)) (.n (some (.row 5 1 xs false false)) .e .e) .e) (.n (some (.box 34 (.v 34 z) false)) (.n none (.n none .e (.n (some (.box 172 (.v 172 st) false)) .e .e)) .e) .e)), [1, 0], 25, some []⟩
 | .b1 s m rs nl sh z st xs o2 q2 => ⟨[(2, .p 2 34 []), (3, .w 3 1 o2 q2), (6, .p 24 172 [])], (.n (some (.box 175 (.g 175 [.v 172 s, .o 1 1, .i .u64 m]) false)) (.n (some (.row 5 1 rs nl sh)) (.n (some (.row 5 1 xs false false)) .e .e) .e) (.n (some (.box 34 (.v 34 z) false)) (.n none (.n none .e (.n (some (.box 172 (.v 172 st) false)) .e .e)) .e) .e)), [1, 0], 25, some []⟩
 | .c0 s m rs off q sh z st xs => ⟨[(2, .p 2 34 []), (3, .o 3 1), (6, .p 24 172 [])], (.n (some (.box 175 (.g 175 [.v 172 s, .w 1 1 off q, .i .u64 m]) false)) (.n (some (.row 5 1 rs false sh)) (.n (some (.row 5 1 xs false false)) .e .e) .e) (.n (some (.box 34 (.v 34 z) false)) (.n none (.n none .e (.n (some (.box 172 (.v 172 st) false)) .e .e)) .e) .e)), [1, 0], 25, some []⟩
 | .c1 s m rs off q sh z st xs o2 q2 => ⟨[(2, .p 2 34 []), (3, .w 3 1 o2 q2), (6, .p 24 172 [])], (.n (some (.box 175 (.g 175 [.v 172 s, .w 1 1 off q, .i .u64 m]) false)) (.n (some (.row 5 1 rs false sh)) (.n (some (.row 5 1 xs false false)) .e .e) .e) (.n (some (.box 34 (.v 34 z) false)) (.n none (.n none .e (.n (some (.box 172 (.v 172 st) false)) .e .e)) .e) .e)), [1, 0], 25, some []⟩
def C9R (R : Type) (kx : Exit → Vm.St → Option R) : QHm → Option R
 | .b0 s m rs nl sh z st xs => kx (.exit 4) ⟨[(2, .p 2 34 []), (3, .o 3 1), (6, .p 24 172 [])], (.n (some (.box 175 (.g 175 [.v 172 s, .o 1 1, .i .u64 m]) false)) (.n (some (.row 5 1 rs nl sh)) (.n (some (.row 5 1 xs false false)) .e .e) .e) (.n (some (.box 34 (.v 34 z) false)) (.n none (.n none .e (.n (some (.box 172 (.v 172 st) false)) .e .e)) .e) .e)), [1, 0], 32, some []⟩
 | .b1 s m rs nl sh z st xs o2 q2 => kx (.exit 4) ⟨[(2, .p 2 34 []), (3, .w 3 1 o2 q2), (6, .p 24 172 [])], (.n (some (.box 175 (.g 175 [.v 172 s, .o 1 1, .i .u64 m]) false)) (.n (some (.row 5 1 rs nl sh)) (.n (some (.row 5 1 xs false false)) .e .e) .e) (.n (some (.box 34 (.v 34 z) false)) (.n none (.n none .e (.n (some (.box 172 (.v 172 st) false)) .e .e)) .e) .e)), [1, 0], 32, some []⟩
 | .c0 s m rs off q sh z st xs => kx (.exit 4) ⟨[(2, .p 2 34 []), (3, .o 3 1), (6, .p 24 172 [])], (.n (some (.box 175 (.g 175 [.v 172 s, .w 1 1 off q, .i .u64 m]) false)) (.n (some (.row 5 1 rs false sh)) (.n (some (.row 5 1 xs false false)) .e .e) .e) (.n (some (.box 34 (.v 34 z) false)) (.n none (.n none .e (.n (some (.box 172 (.v 172 st) false)) .e .e)) .e) .e)), [1, 0], 32, some []⟩
 | .c1 s m rs off q sh z st xs o2 q2 => kx (.exit 4) ⟨[(2, .p 2 34 []), (3, .w 3 1 o2 q2), (6, .p 24 172 [])], (.n (some (.box 175 (.g 175 [.v 172 s, .w 1 1 off q, .i .u64 m]) false)) (.n (some (.row 5 1 rs false sh)) (.n (some (.row 5 1 xs false false)) .e .e) .e) (.n (some (.box 34 (.v 34 z) false)) (.n none (.n none .e (.n (some (.box 172 (.v 172 st) false)) .e .e)) .e) .e)), [1, 0], 32, some []⟩
def A46 : Vm.St → Option PHm
 | ⟨[(2, .p 2 34 []), (3, .o 3 1), (6, .p 24 172 [])], (.n (some (.box 175 (.g 175 [.v 172 s, .o 1 1, .i .u64 m]) false)) (.n (some (.row 5 1 rs nl sh)) (.n (some (.row 5 1 xs false false)) .e .e) .e) (.n (some (.box 34 (.v 34 z) false)) (.n none (.n none .e (.n (some (.box 172 (.v 172 st) false)) .e .e)) .e) .e)), [1, 0], 25, some []⟩ => some (.b0 s m rs nl sh z st xs)
 | _ => none
theorem B1V (τ : Vm.St) (x : PHm) (h : A46 τ = some x) : τ = A97 x := by
 unfold A46 at h
 split at h <;> first | (cases h; rfl) | cases h
def A47 : Vm.St → Option PHm
 | ⟨[(2, .p 2 34 []), (3, .w 3 1 o2 q2), (6, .p 24 172 [])], (.n (some (.box 175 (.g 175 [.v 172 s, .o 1 1, .i .u64 m]) false)) (.n (some (.row 5 1 rs nl sh)) (.n (some (.row 5 1 xs false false)) .e .e) .e) (.n (some (.box 34 (.v 34 z) false)) (.n none (.n none .e (.n (some (.box 172 (.v 172 st) false)) .e .e)) .e) .e)), [1, 0], 25, some []⟩ => some (.b1 s m rs nl sh z st xs o2 q2)
 | _ => none
theorem B1W (τ : Vm.St) (x : PHm) (h : A47 τ = some x) : τ = A97 x := by
 unfold A47 at h
 split at h <;> first | (cases h; rfl) | cases h
def A48 : Vm.St → Option PHm
 | ⟨[(2, .p 2 34 []), (3, .o 3 1), (6, .p 24 172 [])], (.n (some (.box 175 (.g 175 [.v 172 s, .w 1 1 off q, .i .u64 m]) false)) (.n (some (.row 5 1 rs false sh)) (.n (some (.row 5 1 xs false false)) .e .e) .e) (.n (some (.box 34 (.v 34 z) false)) (.n none (.n none .e (.n (some (.box 172 (.v 172 st) false)) .e .e)) .e) .e)), [1, 0], 25, some []⟩ => some (.c0 s m rs off q sh z st xs)
 | _ => none
theorem B1X (τ : Vm.St) (x : PHm) (h : A48 τ = some x) : τ = A97 x := by
 unfold A48 at h
 split at h <;> first | (cases h; rfl) | cases h
def A49 : Vm.St → Option PHm
 | ⟨[(2, .p 2 34 []), (3, .w 3 1 o2 q2), (6, .p 24 172 [])], (.n (some (.box 175 (.g 175 [.v 172 s, .w 1 1 off q, .i .u64 m]) false)) (.n (some (.row 5 1 rs false sh)) (.n (some (.row 5 1 xs false false)) .e .e) .e) (.n (some (.box 34 (.v 34 z) false)) (.n none (.n none .e (.n (some (.box 172 (.v 172 st) false)) .e .e)) .e) .e)), [1, 0], 25, some []⟩ => some (.c1 s m rs off q sh z st xs o2 q2)
 | _ => none
theorem B1Y (τ : Vm.St) (x : PHm) (h : A49 τ = some x) : τ = A97 x := by
 unfold A49 at h
 split at h <;> first | (cases h; rfl) | cases h
def B98 (τ : Vm.St) : Option PHm := oc (A46 τ) some (oc (A47 τ) some (oc (A48 τ) some (oc (A49 τ) some (none))))
theorem B99 (τ : Vm.St) (x : PHm) (h : B98 τ = some x) : τ = A97 x := by
 unfold B98 at h
 cases h0 : A46 τ with
 | some y => rw [h0] at h; cases h; exact B1V τ _ h0
 | none =>
 rw [h0] at h; simp only [oc] at h
 cases h1 : A47 τ with
 | some y => rw [h1] at h; cases h; exact B1W τ _ h1
 | none =>
 rw [h1] at h; simp only [oc] at h
 cases h2 : A48 τ with
 | some y => rw [h2] at h; cases h; exact B1X τ _ h2
 | none =>
 rw [h2] at h; simp only [oc] at h
 cases h3 : A49 τ with
 | some y => rw [h3] at h; cases h; exact B1Y τ _ h3
 | none =>
 rw [h3] at h; simp only [oc] at h
 cases h
theorem C8r (R : Type) (of : Nat → Option Ob) (x : PHm) (K : Vm.St → Option R) (kx : Exit → Vm.St → Option R) : E5 T K34 (fun _ => none) false FU (C4 Tryz.prog 96) of R (lp (A5 Tryz.prog 96) 2) (A97 x) (H3 2 [2, 3, 6] 32 K kx) = BHm R x (fun x' => K (A97 x')) (C9R R kx) := by
 cases x with
 | b0 _ _ _ _ _ _ _ _ => kernel_rfl
 | b1 _ _ _ _ _ _ _ _ _ _ => kernel_rfl
 | c0 _ _ _ _ _ _ _ _ _ => kernel_rfl
 | c1 _ _ _ _ _ _ _ _ _ _ _ => kernel_rfl
def HHm : LS := H5 T K34 (fun _ => none) (C4 Tryz.prog 96) (lp (A5 Tryz.prog 96) 2) 2 [2, 3, 6] 32 B98 BHm C9R
theorem C0a : E4 Tryz.prog T (C4 Tryz.prog 96) 2 (lp (A5 Tryz.prog 96) 2) HHm :=
 C3 follows B9 B1Q B9Y B2 (A7 _) A97 B99 C8r
def C47 : Nat → LC := atN 2 [(3, HHp), (12, HHm)]
theorem A3B : G7 Tryz.prog T 96 C47 := D3 2 (List.forall_mem_cons.2 ⟨B97.1, List.forall_mem_cons.2 ⟨C0a.1, fun _ h => by cases h⟩⟩) 4 (by kernel_rfl) ⟨⟨⟨⟨trivial, loI (s0 := HHp) (by kernel_rfl) B97⟩, loN (by kernel_rfl)⟩, loI (s0 := HHm) (by kernel_rfl) C0a⟩, loN (by kernel_rfl)⟩
def C48 : List (Nat × E7) := (95, trS (A0z Tryz.prog T K34 C46 false FU 95)) :: B9X
theorem C0b : D6 Tryz.prog T C48 := D6.runP follows B9 A6K B94
def C0c : List (Nat × E7) := (96, trS (A0z Tryz.prog T K34 C47 false FU 96)) :: C48
theorem A6L : D6 Tryz.prog T C0c :=
 C0b.cons (A2i (N7 B1Q A3B.nat)) (A3J (N7 B1Q A3B.nat) (A06 follows B9 B1Q B9Y A3B.nat A3B.ok).at_)
def K36 : KC := F5 Tryz.prog T C0c false FU 4
theorem D0Q : K36.nat := A9 A6L 4
theorem D0R : X2 Tryz.prog T K36.dir := B6 follows B9 A6L 4
theorem C8s (l : List V) : D9 Tryz.prog T K36 (fun _ _ => none) false FU 80 (List Rs) (J1 T [119] [.l l]) (fun _ => none) 0 (fun out => J8 T true [.d 34] out) = dsG l (fun x => some [.d 34 x]) := by kernel_rfl
def C0d : List (Nat × E7) := (80, G1 T true [119] (gF dsg (dsr 34))) :: C0c
theorem A6M : D6 Tryz.prog T C0d := by
 refine C5 (sh := true) (rk := [.d 34]) (d := 4) (fu := FU) (Lo := (fun _ _ => none)) (ds := [.slice (.slice (.int .u8))]) follows B9 A6L (by kernel_rfl) H0 40 (by kernel_rfl) (fun xs hd hg => ?_)
 obtain ⟨a, rfl, ha⟩ := W4 hd
 obtain ⟨l, rfl⟩ := C4r hg
 exact (C8s l).trans (C5q ha hg _)
def K37 : KC := F5 Tryz.prog T C0d false FU 4
theorem D0S : K37.nat := A9 A6M 4
theorem D0T : X2 Tryz.prog T K37.dir := B6 follows B9 A6M 4
theorem C3V (l : List V) : D9 Tryz.prog T K37 (fun _ _ => none) false FU 63 (List Rs) (J1 T [119] [.l l]) (fun _ => none) 0 (fun out => J8 T true [.d 34] out) = bif dsg [.l l] then some [.d 34 (A7Y (A3Z (A1X l)))] else none := by kernel_rfl
end Go.Proofs.YtadjkmffodhmbaaGreat
namespace Go.Proofs.YtadjkmffodhmbaaGreat
open Go.Vm
set_option maxRecDepth 100000
set_option linter.unusedVariables false
set_option linter.constructorNameAsVariable false
def C0e : List (Nat × E7) := (63, G1 T true [119] (gF dsg (dtr 34))) :: C0d
theorem A6N : D6 Tryz.prog T C0e := by
 refine C5 (sh := true) (rk := [.d 34]) (d := 4) (fu := FU) (Lo := (fun _ _ => none)) (ds := [.slice (.slice (.int .u8))]) follows B9 A6M (by kernel_rfl) H0 40 (by kernel_rfl) (fun xs hd hg => ?_)
 obtain ⟨a, rfl, ha⟩ := W4 hd
 obtain ⟨l, rfl⟩ := C4r hg
 refine (C3V l).trans ?_
 rw [hg]; rfl
def K38 : KC := F5 Tryz.prog T C0e false FU 4
theorem D0U : K38.nat := A9 A6N 4
theorem D0V : X2 Tryz.prog T K38.dir := B6 follows B9 A6N 4
theorem C8t (l : List V) : D9 Tryz.prog T K38 (fun _ _ => none) false FU 49 (List Rs) (J1 T [37] [.l l]) (fun _ => none) 0 (fun out => J8 T true [.d 34] out) = bif Nat.ble l.length 1000000000 then some [.d 34 (A73 (A73 (.l l)))] else none := by kernel_rfl
def C0f : List (Nat × E7) := (49, G1 T true [37] (gF dwg (dwr 34))) :: C0e
theorem A6O : D6 Tryz.prog T C0f := by
 refine C5 (sh := true) (rk := [.d 34]) (d := 4) (fu := FU) (Lo := (fun _ _ => none)) (ds := [.slice (.int .u8)]) follows B9 A6N (by kernel_rfl) H0 40 (by kernel_rfl) (fun xs hd hg => ?_)
 obtain ⟨a, rfl, ha⟩ := W4 hd
 obtain ⟨l, rfl, hl⟩ := C8V hg
 refine (C8t l).trans ?_
 rw [hl]
 show some [Rs.d _ (A73 (A73 (.l l)))] = some [Rs.d _ (A7Y (A3Z (F1 (.l l))))]
 rw [show A73 (A73 (.l l)) = A7Y (A3Z (F1 (.l l))) by unfold A73 A7Y; rw [J5 (x := .l _) rfl]]
def K39 : KC := F5 Tryz.prog T C0f false FU 4
theorem D0W : K39.nat := A9 A6O 4
theorem D0X : X2 Tryz.prog T K39.dir := B6 follows B9 A6O 4
end Go.Proofs.YtadjkmffodhmbaaGreat
namespace Go.Proofs.YtadjkmffodhmbaaGreat
open Go.Vm
set_option maxRecDepth 100000
set_option linter.unusedVariables false
set_option linter.constructorNameAsVariable false
theorem C3W (x y : List V) : D9 Tryz.prog T K39 (fun _ _ => none) false FU 40 (List Rs) (J1 T [9, 9] [.s x, .s y]) (fun _ => none) 0 (fun out => J8 T true [.d 47] out) = cm2 47 x y := by kernel_rfl
def C0g : List (Nat × E7) := (40, G1 T true [9, 9] (gF cmg (cmr 47))) :: C0f
theorem A6P : D6 Tryz.prog T C0g := by
 refine C5 (sh := true) (rk := [.d 47]) (d := 4) (fu := FU) (Lo := (fun _ _ => none)) (ds := [.str, .str]) follows B9 A6O (by kernel_rfl) H0 40 (by kernel_rfl) (fun xs hd hg => ?_)
 obtain ⟨a, b, rfl, ha, hb⟩ := Z6 hd
 obtain ⟨x, rfl, _⟩ := ha
 obtain ⟨y, rfl, _⟩ := hb
 exact (C3W _ _).trans (B62 hg).2
def K40 : KC := F5 Tryz.prog T C0g false FU 4
theorem D0Y : K40.nat := A9 A6P 4
theorem D0Z : X2 Tryz.prog T K40.dir := B6 follows B9 A6P 4
theorem C3X (x y : List V) : D9 Tryz.prog T K40 (fun _ _ => none) false FU 51 (List Rs) (J1 T [9, 9] [.s x, .s y]) (fun _ => none) 0 (fun out => J8 T true [.d 47] out) = cm1 47 x y := by kernel_rfl
def C0h : List (Nat × E7) := (51, G1 T true [9, 9] (gF cmg (cmr 47))) :: C0g
theorem A6Q : D6 Tryz.prog T C0h := by
 refine C5 (sh := true) (rk := [.d 47]) (d := 4) (fu := FU) (Lo := (fun _ _ => none)) (ds := [.str, .str]) follows B9 A6P (by kernel_rfl) H0 40 (by kernel_rfl) (fun xs hd hg => ?_)
 obtain ⟨a, b, rfl, ha, hb⟩ := Z6 hd
 obtain ⟨x, rfl, _⟩ := ha
 obtain ⟨y, rfl, _⟩ := hb
 exact (C3X _ _).trans (B62 hg).1
def K41 : KC := F5 Tryz.prog T C0h false FU 4
theorem D0q : K41.nat := A9 A6Q 4
theorem D0r : X2 Tryz.prog T K41.dir := B6 follows B9 A6Q 4
end Go.Proofs.YtadjkmffodhmbaaGreat
end
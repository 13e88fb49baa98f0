/- What functions compute, and the law run. -/
import Derived.Test.YtadjkmffodhmbaaGreatWalk1
import Derived.Test.YtadjkmffodhmbaaGreatVm12
set_option linter.constructorNameAsVariable false
set_option linter.unusedVariables false
set_option linter.unusedSimpArgs false
noncomputable section
namespace Go.Proofs.YtadjkmffodhmbaaGreat
open Go.Vm
set_option maxRecDepth 100000
set_option linter.unusedVariables false
set_option linter.constructorNameAsVariable false
def B2b : B4f → Vm.St
 | .m z u v d a l n i => ⟨[(2, .p 0 49 []), (3, .i .i64 u), (4, .i .i64 v), (5, .p 1 49 []), (6, .i .i64 a), (13, .v 25 l), (14, .i .i64 n), (15, .i .i64 i)], (.n (some (.box 49 (.v 49 z) false)) (.n (some (.box 49 (.v 49 d) false)) .e .e) .e), [], 2, some []⟩
def C4z (R : Type) (kx : Exit → Vm.St → Option R) : C6k → Option R
 | .o z u v d a l n i => kx (.exit 0) ⟨[(2, .p 0 49 []), (3, .i .i64 u), (4, .i .i64 v), (5, .p 1 49 []), (6, .i .i64 a), (13, .v 25 l), (14, .i .i64 n), (15, .i .i64 i)], (.n (some (.box 49 (.v 49 z) false)) (.n (some (.box 49 (.v 49 d) false)) .e .e) .e), [], 64, some []⟩
 | .r z u v d a l n i => kx (.ret) ⟨[(2, .p 0 49 []), (3, .i .i64 u), (4, .i .i64 v), (5, .p 1 49 []), (6, .i .i64 a), (13, .v 25 l), (14, .i .i64 n), (15, .i .i64 i)], (.n (some (.box 49 (.v 49 z) false)) (.n (some (.box 49 (.v 49 d) false)) .e .e) .e), [], 64, some []⟩
def B0n : Vm.St → Option B4f
 | ⟨[(2, .p 0 49 []), (3, .i .i64 u), (4, .i .i64 v), (5, .p 1 49 []), (6, .i .i64 a), (13, .v 25 l), (14, .i .i64 n), (15, .i .i64 i)], (.n (some (.box 49 (.v 49 z) false)) (.n (some (.box 49 (.v 49 d) false)) .e .e) .e), [], 2, some []⟩ => some (.m z u v d a l n i)
 | _ => none
theorem B3w (τ : Vm.St) (x : B4f) (h : B0n τ = some x) : τ = B2b x := by
 unfold B0n at h
 split at h <;> first | (cases h; rfl) | cases h
theorem C0C (R : Type) (of : Nat → Option Ob) (x : B4f) (K : Vm.St → Option R) (kx : Exit → Vm.St → Option R) : E5 T K41 (fun _ => none) false FU (C4 Tryz.prog 13) of R (lp (A5 Tryz.prog 13) 0) (B2b x) (H3 0 [999999, 2, 3, 4, 5, 6, 13, 14, 15] 64 K kx) = B63 R x (fun x' => K (B2b x')) (C4z R kx) := by
 cases x with
 | m _ _ _ _ _ _ _ _ => kernel_rfl
def C5t : LS := H5 T K41 (fun _ => none) (C4 Tryz.prog 13) (lp (A5 Tryz.prog 13) 0) 0 [999999, 2, 3, 4, 5, 6, 13, 14, 15] 64 B0n B63 C4z
theorem B2c : E4 Tryz.prog T (C4 Tryz.prog 13) 0 (lp (A5 Tryz.prog 13) 0) C5t :=
 C3 follows B9 D0q D0r B2 (A7 _) B2b B3w C0C
def B5E : Nat → LC := atN 0 [(4, C5t)]
theorem B5F : G7 Tryz.prog T 13 B5E := D3 0 (List.forall_mem_cons.2 ⟨B2c.1, fun _ h => by cases h⟩) 1 (by kernel_rfl) ⟨trivial, loI (s0 := C5t) (by kernel_rfl) B2c⟩
theorem C0D (v u : Int) (x y : V) : D9 Tryz.prog T K41 B5E false FU 13 (List Rs) (J1 T [27] [.l [.i v, x, y, .i u]]) (fun _ => none) 0 (fun out => J8 T true [.d 49, .d 3, .d 50] out) = C6u 49 3 50 y := by kernel_rfl
def B5G : List (Nat × E7) := (13, G1 T true [27] (gF tdg (tdr 49 3 50))) :: C0h
theorem A5h : D6 Tryz.prog T B5G := by
 refine C5 (sh := true) (rk := [.d 49, .d 3, .d 50]) (d := 4) (fu := FU) (Lo := B5E) (ds := [DTx]) follows B9 A6Q (by kernel_rfl) B5F 40 (by kernel_rfl) (fun xs hd hg => ?_)
 obtain ⟨a, rfl, ha⟩ := W4 hd
 obtain ⟨v, x, y, u, rfl, _⟩ := B0l ha
 exact (C0D v u x y).trans (B2F hg).1
def K42 : KC := F5 Tryz.prog T B5G false FU 4
theorem C9Y : K42.nat := A9 A5h 4
theorem C9Z : X2 Tryz.prog T K42.dir := B6 follows B9 A5h 4
def B2d : B4g → Vm.St
 | .m z u v d a m l n i => ⟨[(2, .p 0 49 []), (3, .i .i64 u), (4, .i .i64 v), (5, .p 1 49 []), (6, .i .i64 a), (7, .i .i64 m), (15, .v 25 l), (16, .i .i64 n), (17, .i .i64 i)], (.n (some (.box 49 (.v 49 z) false)) (.n (some (.box 49 (.v 49 d) false)) .e .e) .e), [], 2, some []⟩
def C4A (R : Type) (kx : Exit → Vm.St → Option R) : B65 → Option R
 | .o z u v d a m l n i => kx (.exit 0) ⟨[(2, .p 0 49 []), (3, .i .i64 u), (4, .i .i64 v), (5, .p 1 49 []), (6, .i .i64 a), (7, .i .i64 m), (15, .v 25 l), (16, .i .i64 n), (17, .i .i64 i)], (.n (some (.box 49 (.v 49 z) false)) (.n (some (.box 49 (.v 49 d) false)) .e .e) .e), [], 64, some []⟩
 | .r z u v d a m l n i => kx (.ret) ⟨[(2, .p 0 49 []), (3, .i .i64 u), (4, .i .i64 v), (5, .p 1 49 []), (6, .i .i64 a), (7, .i .i64 m), (15, .v 25 l), (16, .i .i64 n), (17, .i .i64 i)], (.n (some (.box 49 (.v 49 z) false)) (.n (some (.box 49 (.v 49 d) false)) .e .e) .e), [], 64, some []⟩
def B0o : Vm.St → Option B4g
 | ⟨[(2, .p 0 49 []), (3, .i .i64 u), (4, .i .i64 v), (5, .p 1 49 []), (6, .i .i64 a), (7, .i .i64 m), (15, .v 25 l), (16, .i .i64 n), (17, .i .i64 i)], (.n (some (.box 49 (.v 49 z) false)) (.n (some (.box 49 (.v 49 d) false)) .e .e) .e), [], 2, some []⟩ => some (.m z u v d a m l n i)
 | _ => none
theorem B3x (τ : Vm.St) (x : B4g) (h : B0o τ = some x) : τ = B2d x := by
 unfold B0o at h
 split at h <;> first | (cases h; rfl) | cases h
theorem C0E (R : Type) (of : Nat → Option Ob) (x : B4g) (K : Vm.St → Option R) (kx : Exit → Vm.St → Option R) : E5 T K42 (fun _ => none) false FU (C4 Tryz.prog 14) of R (lp (A5 Tryz.prog 14) 0) (B2d x) (H3 0 [999999, 2, 3, 4, 5, 6, 7, 15, 16, 17] 64 K kx) = B4h R x (fun x' => K (B2d x')) (C4A R kx) := by
 cases x with
 | m _ _ _ _ _ _ _ _ _ => kernel_rfl
def C5u : LS := H5 T K42 (fun _ => none) (C4 Tryz.prog 14) (lp (A5 Tryz.prog 14) 0) 0 [999999, 2, 3, 4, 5, 6, 7, 15, 16, 17] 64 B0o B4h C4A
theorem B2e : E4 Tryz.prog T (C4 Tryz.prog 14) 0 (lp (A5 Tryz.prog 14) 0) C5u :=
 C3 follows B9 C9Y C9Z B2 (A7 _) B2d B3x C0E
def B5H : Nat → LC := atN 0 [(3, C5u)]
theorem B5I : G7 Tryz.prog T 14 B5H := D3 0 (List.forall_mem_cons.2 ⟨B2e.1, fun _ h => by cases h⟩) 1 (by kernel_rfl) ⟨trivial, loI (s0 := C5u) (by kernel_rfl) B2e⟩
theorem C0F (v u : Int) (x y : V) : D9 Tryz.prog T K42 B5H false FU 14 (List Rs) (J1 T [27] [.l [.i v, x, y, .i u]]) (fun _ => none) 0 (fun out => J8 T true [.d 49, .d 3, .d 3] out) = C6v 49 3 3 y := by kernel_rfl
def B5J : List (Nat × E7) := (14, G1 T true [27] (gF tdg (tdr 49 3 3))) :: B5G
theorem A5i : D6 Tryz.prog T B5J := by
 refine C5 (sh := true) (rk := [.d 49, .d 3, .d 3]) (d := 4) (fu := FU) (Lo := B5H) (ds := [DTx]) follows B9 A5h (by kernel_rfl) B5I 40 (by kernel_rfl) (fun xs hd hg => ?_)
 obtain ⟨a, rfl, ha⟩ := W4 hd
 obtain ⟨v, x, y, u, rfl, _⟩ := B0l ha
 exact (C0F v u x y).trans (B2F hg).2
def K43 : KC := F5 Tryz.prog T B5J false FU 4
theorem C90 : K43.nat := A9 A5i 4
theorem C91 : X2 Tryz.prog T K43.dir := B6 follows B9 A5i 4
def B2f : B4i → Vm.St
 | .m z h l n i => ⟨[(2, .p 0 95 []), (3, .b false), (4, .p 1 95 []), (11, .v 32 l), (12, .i .i64 n), (13, .i .i64 i)], (.n (some (.box 95 (.v 95 z) false)) (.n (some (.box 95 (.v 95 h) false)) .e .e) .e), [], 2, some []⟩
def C4B (R : Type) (kx : Exit → Vm.St → Option R) : C6l → Option R
 | .o z h l n i => kx (.exit 0) ⟨[(2, .p 0 95 []), (3, .b false), (4, .p 1 95 []), (11, .v 32 l), (12, .i .i64 n), (13, .i .i64 i)], (.n (some (.box 95 (.v 95 z) false)) (.n (some (.box 95 (.v 95 h) false)) .e .e) .e), [], 64, some []⟩
 | .r z h l n i => kx (.ret) ⟨[(2, .p 0 95 []), (3, .b false), (4, .p 1 95 []), (11, .v 32 l), (12, .i .i64 n), (13, .i .i64 i)], (.n (some (.box 95 (.v 95 z) false)) (.n (some (.box 95 (.v 95 h) false)) .e .e) .e), [], 64, some []⟩
def B0p : Vm.St → Option B4i
 | ⟨[(2, .p 0 95 []), (3, .b false), (4, .p 1 95 []), (11, .v 32 l), (12, .i .i64 n), (13, .i .i64 i)], (.n (some (.box 95 (.v 95 z) false)) (.n (some (.box 95 (.v 95 h) false)) .e .e) .e), [], 2, some []⟩ => some (.m z h l n i)
 | _ => none
theorem B3y (τ : Vm.St) (x : B4i) (h : B0p τ = some x) : τ = B2f x := by
 unfold B0p at h
 split at h <;> first | (cases h; rfl) | cases h
theorem C0G (R : Type) (of : Nat → Option Ob) (x : B4i) (K : Vm.St → Option R) (kx : Exit → Vm.St → Option R) : E5 T K43 (fun _ => none) false FU (C4 Tryz.prog 35) of R (lp (A5 Tryz.prog 35) 0) (B2f x) (H3 0 [999999, 2, 3, 4, 11, 12, 13] 64 K kx) = B66 R x (fun x' => K (B2f x')) (C4B R kx) := by
 cases x with
 | m _ _ _ _ _ => kernel_rfl
def C5v : LS := H5 T K43 (fun _ => none) (C4 Tryz.prog 35) (lp (A5 Tryz.prog 35) 0) 0 [999999, 2, 3, 4, 11, 12, 13] 64 B0p B66 C4B
theorem B2g : E4 Tryz.prog T (C4 Tryz.prog 35) 0 (lp (A5 Tryz.prog 35) 0) C5v :=
 C3 follows B9 C90 C91 B2 (A7 _) B2f B3y C0G
def B5K : Nat → LC := atN 0 [(3, C5v)]
theorem B5L : G7 Tryz.prog T 35 B5K := D3 0 (List.forall_mem_cons.2 ⟨B2g.1, fun _ h => by cases h⟩) 1 (by kernel_rfl) ⟨trivial, loI (s0 := C5v) (by kernel_rfl) B2g⟩
theorem C0H (l : V) : D9 Tryz.prog T K43 B5K false FU 35 (List Rs) (J1 T [32] [l]) (fun _ => none) 0 (fun out => J8 T true [.d 95, .d 4] out) = hoG 95 4 l := by kernel_rfl
def B5M : List (Nat × E7) := (35, G1 T true [32] (gF hog (hor 95 4))) :: B5J
theorem A5j : D6 Tryz.prog T B5M := by
 refine C5 (sh := true) (rk := [.d 95, .d 4]) (d := 4) (fu := FU) (Lo := B5K) (ds := [.slice A7n]) follows B9 A5i (by kernel_rfl) B5L 40 (by kernel_rfl) (fun xs hd hg => ?_)
 obtain ⟨a, rfl, ha⟩ := W4 hd
 exact (C0H a).trans (C1V hg)
def K44 : KC := F5 Tryz.prog T B5M false FU 4
theorem C8X : K44.nat := A9 A5j 4
theorem C8Y : X2 Tryz.prog T K44.dir := B6 follows B9 A5j 4
def B2h : B4k → Vm.St
 | .m t l n i => ⟨[(1, .p 0 27 []), (2, .b false), (18, .v 25 l), (19, .i .i64 n), (20, .i .i64 i)], (.n (some (.box 27 (.v 27 t) false)) .e .e), [], 1, some []⟩
def C4C (R : Type) (kx : Exit → Vm.St → Option R) : C6n → Option R
 | .o t l n i => kx (.exit 0) ⟨[(1, .p 0 27 []), (2, .b false), (18, .v 25 l), (19, .i .i64 n), (20, .i .i64 i)], (.n (some (.box 27 (.v 27 t) false)) .e .e), [], 64, some []⟩
 | .r t l n i => kx (.ret) ⟨[(1, .p 0 27 []), (2, .b true), (18, .v 25 l), (19, .i .i64 n), (20, .i .i64 i)], (.n (some (.box 27 (.v 27 t) false)) .e .e), [], 64, some []⟩
def B0q : Vm.St → Option B4k
 | ⟨[(1, .p 0 27 []), (2, .b false), (18, .v 25 l), (19, .i .i64 n), (20, .i .i64 i)], (.n (some (.box 27 (.v 27 t) false)) .e .e), [], 1, some []⟩ => some (.m t l n i)
 | _ => none
theorem B3z (τ : Vm.St) (x : B4k) (h : B0q τ = some x) : τ = B2h x := by
 unfold B0q at h
 split at h <;> first | (cases h; rfl) | cases h
theorem C0I (R : Type) (of : Nat → Option Ob) (x : B4k) (K : Vm.St → Option R) (kx : Exit → Vm.St → Option R) : E5 T K44 (fun _ => none) false FU (C4 Tryz.prog 9) of R (lp (A5 Tryz.prog 9) 0) (B2h x) (H3 0 [999999, 1, 2, 18, 19, 20] 64 K kx) = B7a R x (fun x' => K (B2h x')) (C4C R kx) := by
 cases x with
 | m _ _ _ _ => kernel_rfl
def C5w : LS := H5 T K44 (fun _ => none) (C4 Tryz.prog 9) (lp (A5 Tryz.prog 9) 0) 0 [999999, 1, 2, 18, 19, 20] 64 B0q B7a C4C
theorem B2i : E4 Tryz.prog T (C4 Tryz.prog 9) 0 (lp (A5 Tryz.prog 9) 0) C5w :=
 C3 follows B9 C8X C8Y B2 (A7 _) B2h B3z C0I
def B2j : B4l → Vm.St
 | .m t l n i => ⟨[(1, .p 0 27 []), (2, .b false), (30, .v 24 l), (31, .i .i64 n), (32, .i .i64 i)], (.n (some (.box 27 (.v 27 t) false)) .e .e), [], 1, some []⟩
def C4D (R : Type) (kx : Exit → Vm.St → Option R) : C6o → Option R
 | .o t l n i => kx (.exit 2) ⟨[(1, .p 0 27 []), (2, .b false), (30, .v 24 l), (31, .i .i64 n), (32, .i .i64 i)], (.n (some (.box 27 (.v 27 t) false)) .e .e), [], 128, some []⟩
 | .r t l n i => kx (.ret) ⟨[(1, .p 0 27 []), (2, .b true), (30, .v 24 l), (31, .i .i64 n), (32, .i .i64 i)], (.n (some (.box 27 (.v 27 t) false)) .e .e), [], 128, some []⟩
def B0r : Vm.St → Option B4l
 | ⟨[(1, .p 0 27 []), (2, .b false), (30, .v 24 l), (31, .i .i64 n), (32, .i .i64 i)], (.n (some (.box 27 (.v 27 t) false)) .e .e), [], 1, some []⟩ => some (.m t l n i)
 | _ => none
theorem B3A (τ : Vm.St) (x : B4l) (h : B0r τ = some x) : τ = B2j x := by
 unfold B0r at h
 split at h <;> first | (cases h; rfl) | cases h
theorem C0J (R : Type) (of : Nat → Option Ob) (x : B4l) (K : Vm.St → Option R) (kx : Exit → Vm.St → Option R) : E5 T K44 (fun _ => none) false FU (C4 Tryz.prog 9) of R (lp (A5 Tryz.prog 9) 1) (B2j x) (H3 0 [999999, 1, 2, 30, 31, 32] 128 K kx) = B4m R x (fun x' => K (B2j x')) (C4D R kx) := by
 cases x with
 | m _ _ _ _ => kernel_rfl
def C5x : LS := H5 T K44 (fun _ => none) (C4 Tryz.prog 9) (lp (A5 Tryz.prog 9) 1) 0 [999999, 1, 2, 30, 31, 32] 128 B0r B4m C4D
theorem B2k : E4 Tryz.prog T (C4 Tryz.prog 9) 0 (lp (A5 Tryz.prog 9) 1) C5x :=
 C3 follows B9 C8X C8Y B2 (A7 _) B2j B3A C0J
def B5N : Nat → LC := atN 0 [(4, C5w), (10, C5x)]
theorem B5O : G7 Tryz.prog T 9 B5N := D3 0 (List.forall_mem_cons.2 ⟨B2i.1, List.forall_mem_cons.2 ⟨B2k.1, fun _ h => by cases h⟩⟩) 2 (by kernel_rfl) ⟨⟨trivial, loI (s0 := C5w) (by kernel_rfl) B2i⟩, loI (s0 := C5x) (by kernel_rfl) B2k⟩
theorem C0K (v u : Int) (x y : V) : D9 Tryz.prog T K44 B5N false FU 9 (List Rs) (J1 T [27] [.l [.i v, x, y, .i u]]) (fun _ => none) 0 (fun out => J8 T true [.d 4] out) = gkG 4 v u x y := by kernel_rfl
def B5P : List (Nat × E7) := (9, G1 T true [27] (gF gkg (gkr 4))) :: B5M
theorem A5k : D6 Tryz.prog T B5P := by
 refine C5 (sh := true) (rk := [.d 4]) (d := 4) (fu := FU) (Lo := B5N) (ds := [DTx]) follows B9 A5j (by kernel_rfl) B5O 40 (by kernel_rfl) (fun xs hd hg => ?_)
 obtain ⟨a, rfl, ha⟩ := W4 hd
 obtain ⟨v, x, y, u, rfl, _⟩ := B0l ha
 exact (C0K v u x y).trans (C1X hg)
def K45 : KC := F5 Tryz.prog T B5P false FU 4
theorem C92 : K45.nat := A9 A5k 4
theorem C93 : X2 Tryz.prog T K45.dir := B6 follows B9 A5k 4
def B2l : B4j → Vm.St
 | .m e c h t z r y d a x j m l n i => ⟨[(0, .v 22 e), (2, .v 32 c), (3, .i .i64 h), (5, .p 0 27 []), (8, .p 1 49 []), (9, .i .i64 r), (10, .p 2 49 []), (11, .p 3 49 []), (12, .i .i64 a), (14, .p 4 49 []), (15, .i .i64 j), (16, .i .i64 m), (38, .v 32 l), (39, .i .i64 n), (40, .i .i64 i)], (.n (some (.box 27 (.v 27 t) false)) (.n (some (.box 49 (.v 49 z) false)) (.n (some (.box 49 (.v 49 d) false)) .e .e) .e) (.n (some (.box 49 (.v 49 y) false)) (.n (some (.box 49 (.v 49 x) false)) .e .e) .e)), [], 5, some []⟩
def C4E (R : Type) (kx : Exit → Vm.St → Option R) : C6m → Option R
 | .o e c h t z r y d a x j m l n i => kx (.exit 0) ⟨[(0, .v 22 e), (2, .v 32 c), (3, .i .i64 h), (5, .p 0 27 []), (8, .p 1 49 []), (9, .i .i64 r), (10, .p 2 49 []), (11, .p 3 49 []), (12, .i .i64 a), (14, .p 4 49 []), (15, .i .i64 j), (16, .i .i64 m), (38, .v 32 l), (39, .i .i64 n), (40, .i .i64 i)], (.n (some (.box 27 (.v 27 t) false)) (.n (some (.box 49 (.v 49 z) false)) (.n (some (.box 49 (.v 49 d) false)) .e .e) .e) (.n (some (.box 49 (.v 49 y) false)) (.n (some (.box 49 (.v 49 x) false)) .e .e) .e)), [], 64, some []⟩
def B0s : Vm.St → Option B4j
 | ⟨[(0, .v 22 e), (2, .v 32 c), (3, .i .i64 h), (5, .p 0 27 []), (8, .p 1 49 []), (9, .i .i64 r), (10, .p 2 49 []), (11, .p 3 49 []), (12, .i .i64 a), (14, .p 4 49 []), (15, .i .i64 j), (16, .i .i64 m), (38, .v 32 l), (39, .i .i64 n), (40, .i .i64 i)], (.n (some (.box 27 (.v 27 t) false)) (.n (some (.box 49 (.v 49 z) false)) (.n (some (.box 49 (.v 49 d) false)) .e .e) .e) (.n (some (.box 49 (.v 49 y) false)) (.n (some (.box 49 (.v 49 x) false)) .e .e) .e)), [], 5, some []⟩ => some (.m e c h t z r y d a x j m l n i)
 | _ => none
theorem B3B (τ : Vm.St) (x : B4j) (h : B0s τ = some x) : τ = B2l x := by
 unfold B0s at h
 split at h <;> first | (cases h; rfl) | cases h
theorem C0L (R : Type) (of : Nat → Option Ob) (x : B4j) (K : Vm.St → Option R) (kx : Exit → Vm.St → Option R) : E5 T K45 (fun _ => none) false FU (C4 Tryz.prog 12) of R (lp (A5 Tryz.prog 12) 0) (B2l x) (H3 0 [999999, 0, 2, 3, 5, 8, 9, 10, 11, 12, 14, 15, 16, 38, 39, 40] 64 K kx) = B68 R x (fun x' => K (B2l x')) (C4E R kx) := by
 cases x with
 | m _ _ _ _ _ _ _ _ _ _ _ _ _ _ _ => kernel_rfl
def C5y : LS := H5 T K45 (fun _ => none) (C4 Tryz.prog 12) (lp (A5 Tryz.prog 12) 0) 0 [999999, 0, 2, 3, 5, 8, 9, 10, 11, 12, 14, 15, 16, 38, 39, 40] 64 B0s B68 C4E
theorem B2m : E4 Tryz.prog T (C4 Tryz.prog 12) 0 (lp (A5 Tryz.prog 12) 0) C5y :=
 C3 follows B9 C92 C93 B2 (A7 _) B2l B3B C0L
def B5Q : Nat → LC := atN 0 [(7, C5y)]
theorem B5R : G7 Tryz.prog T 12 B5Q := D3 0 (List.forall_mem_cons.2 ⟨B2m.1, fun _ h => by cases h⟩) 1 (by kernel_rfl) ⟨trivial, loI (s0 := C5y) (by kernel_rfl) B2m⟩
theorem C0M (e c : V) (h v u : Int) (x y : V) : D9 Tryz.prog T K45 B5Q false FU 12 (List Rs) (J1 T [22, 27, 32, 2] [e, .l [.i v, x, y, .i u], c, .i h]) (fun _ => none) 0 (fun out => J8 T true [.d 49, .d 3] out) = C6B 49 3 e c h v u x y := by kernel_rfl
def B5S : List (Nat × E7) := (12, G1 T true [22, 27, 32, 2] (gF C9d (C6C 49 3))) :: B5P
theorem A5l : D6 Tryz.prog T B5S := by
 refine C5 (sh := true) (rk := [.d 49, .d 3]) (d := 4) (fu := FU) (Lo := B5Q) (ds := [.slice A1d, DTx, .slice A7n, .int .i64]) follows B9 A5k (by kernel_rfl) B5R 40 (by kernel_rfl) (fun xs hd hg => ?_)
 obtain ⟨a, b, c, d, rfl, ha, hb, hc, hd⟩ := A9b hd
 obtain ⟨v, x, y, u, rfl, _⟩ := B0l hb
 obtain ⟨h, rfl, _⟩ : (D.int .i64).has d := by assumption
 exact (C0M a c h v u x y).trans (B7j hb hg)
def K46 : KC := F5 Tryz.prog T B5S false FU 4
theorem D0s : K46.nat := A9 A5l 4
theorem D0t : X2 Tryz.prog T K46.dir := B6 follows B9 A5l 4
end Go.Proofs.YtadjkmffodhmbaaGreat
namespace Go.Proofs.YtadjkmffodhmbaaGreat
open Go.Vm
set_option maxRecDepth 100000
set_option linter.unusedVariables false
set_option linter.constructorNameAsVariable false
def A8Z : List (Nat × E7) := (7, B1L) :: B5S
theorem A1Y : D6 Tryz.prog T A8Z := A5l.cons B1M C9I
def K47 : KC := F5 Tryz.prog T A8Z false FU 4
theorem C94 : K47.nat := A9 A1Y 4
theorem C95 : X2 Tryz.prog T K47.dir := B6 follows B9 A1Y 4
def B2n : B4n → Vm.St
 | .m e s t xs l n i => ⟨[(0, .v 22 e), (2, .v 28 s), (4, .p 0 27 []), (6, .b false), (7, .o 1 1), (42, .v 24 l), (43, .i .i64 n), (44, .i .i64 i)], (.n (some (.box 27 (.v 27 t) false)) (.n (some (.row 41 1 xs false false)) .e .e) .e), [], 2, some []⟩
def C4F (R : Type) (kx : Exit → Vm.St → Option R) : C6p → Option R
 | .o e s t xs l n i => kx (.exit 0) ⟨[(0, .v 22 e), (2, .v 28 s), (4, .p 0 27 []), (6, .b false), (7, .o 1 1), (42, .v 24 l), (43, .i .i64 n), (44, .i .i64 i)], (.n (some (.box 27 (.v 27 t) false)) (.n (some (.row 41 1 xs false false)) .e .e) .e), [], 4096, some []⟩
 | .r e s t xs l n i => kx (.ret) ⟨[(0, .v 22 e), (2, .v 28 s), (4, .p 0 27 []), (6, .b true), (7, .o 1 1), (42, .v 24 l), (43, .i .i64 n), (44, .i .i64 i)], (.n (some (.box 27 (.v 27 t) false)) (.n (some (.row 41 1 xs false false)) .e .e) .e), [], 4096, some []⟩
def B0t : Vm.St → Option B4n
 | ⟨[(0, .v 22 e), (2, .v 28 s), (4, .p 0 27 []), (6, .b false), (7, .o 1 1), (42, .v 24 l), (43, .i .i64 n), (44, .i .i64 i)], (.n (some (.box 27 (.v 27 t) false)) (.n (some (.row 41 1 xs false false)) .e .e) .e), [], 2, some []⟩ => some (.m e s t xs l n i)
 | _ => none
theorem B3C (τ : Vm.St) (x : B4n) (h : B0t τ = some x) : τ = B2n x := by
 unfold B0t at h
 split at h <;> first | (cases h; rfl) | cases h
theorem C0N (R : Type) (of : Nat → Option Ob) (x : B4n) (K : Vm.St → Option R) (kx : Exit → Vm.St → Option R) : E5 T K47 (fun _ => none) false FU (C4 Tryz.prog 3) of R (lp (A5 Tryz.prog 3) 0) (B2n x) (H3 0 [999999, 0, 2, 4, 6, 7, 42, 43, 44] 4096 K kx) = B7d R x (fun x' => K (B2n x')) (C4F R kx) := by
 cases x with
 | m _ _ _ _ _ _ _ => kernel_rfl
def C5z : LS := H5 T K47 (fun _ => none) (C4 Tryz.prog 3) (lp (A5 Tryz.prog 3) 0) 0 [999999, 0, 2, 4, 6, 7, 42, 43, 44] 4096 B0t B7d C4F
theorem B2o : E4 Tryz.prog T (C4 Tryz.prog 3) 0 (lp (A5 Tryz.prog 3) 0) C5z :=
 C3 follows B9 C94 C95 B2 (A7 _) B2n B3C C0N
def A80 : Nat → LC := atN 0 [(7, C5z)]
theorem A5m : G7 Tryz.prog T 3 A80 := D3 0 (List.forall_mem_cons.2 ⟨B2o.1, fun _ h => by cases h⟩) 1 (by kernel_rfl) ⟨trivial, loI (s0 := C5z) (by kernel_rfl) B2o⟩
theorem B0u (l s x y : V) (v u : Int) : D9 Tryz.prog T K47 A80 false FU 3 Unit (J1 T [22, 27, 28] [l, .l [.i v, x, y, .i u], s]) (fun _ => none) 0 A9d = A8o 9 l s v u x y := by kernel_rfl
theorem law_run (xs : List V) (hd : D.hasL [.slice A1d, DTx, .slice A3S] xs) (hm : D.smL [.slice A1d, DTx, .slice A3S] xs) : D9 Tryz.prog T (F5 Tryz.prog T A8Z false FU 4) A80 false FU 3 Unit (J1 T [22, 27, 28] xs) (fun _ => none) 0 A9d = some () := by
 obtain ⟨l, t, s, rfl, hl, ht, hs⟩ := A9a hd
 obtain ⟨h1, h2, h3, _⟩ := hm
 obtain ⟨v, x, y, u, rfl, _⟩ := B0l ht
 exact (B0u l s x y v u).trans (B02 hl h1 ht h2 hs h3)
theorem law_nat : (D9 Tryz.prog T (F5 Tryz.prog T A8Z false FU 4) A80 false FU 3).nat := A3Y (A9 A1Y 4) A5m.nat
theorem law_ok : N3 Tryz.prog T 3 (D9 Tryz.prog T (F5 Tryz.prog T A8Z false FU 4) A80 false FU 3).dir := A5O follows B9 (A9 A1Y 4) (B6 follows B9 A1Y 4) A5m.nat A5m.ok
end Go.Proofs.YtadjkmffodhmbaaGreat
end
/- What functions compute, and the law run. -/
import Derived.Test.YteoeonfajlnggaaGreatTy
import Derived.Test.YteoeonfajlnggaaGreatVm10
import Derived.Test.YteoeonfajlnggaaGreatVm11
import Derived.Test.YteoeonfajlnggaaGreatVm12
import Derived.Test.YteoeonfajlnggaaGreatVm13
import Derived.Test.YteoeonfajlnggaaGreatProg
import Derived.LoopTactic
import Derived.Shelf.Abstract
set_option linter.constructorNameAsVariable false
set_option linter.unusedVariables false
set_option linter.unusedSimpArgs false
noncomputable section
namespace Go.Proofs.YteoeonfajlnggaaGreat
open Go.Vm
set_option maxRecDepth 100000
set_option linter.unusedVariables false
noncomputable def tab1 : List (Nat × SymC) := []
theorem tab1_ok : TabOK Tryz.prog T tab1 := tabOK_nil
noncomputable def K1 : KC := runAC Tryz.prog T tab1 false FU 4
theorem hK1 : K1.nat := runAC_nat tab1_ok 4
theorem hS1 : KOK Tryz.prog T K1.dir := runAC_ok follows T_ok tab1_ok 4
noncomputable def tmSpA : PSpA → Vm.St
  | .m x z i w => ⟨[(0, .v 39 x), (2, .p 0 168 []), (3, .p 1 168 []), (8, .i .i64 i)], (.n (some (.box 168 (.v 168 z) false)) (.n (some (.box 168 (.v 168 w) false)) .e .e) .e), [], 2, some []⟩
noncomputable def ekSpA (R : Type) (kx : Exit → Vm.St → Option R) : QSpA → Option R
  | .o x z i w => kx (.exit 0) ⟨[(0, .v 39 x), (2, .p 0 168 []), (3, .p 1 168 []), (8, .i .i64 i)], (.n (some (.box 168 (.v 168 z) false)) (.n (some (.box 168 (.v 168 w) false)) .e .e) .e), [], 16, some []⟩
noncomputable def extSpA : Vm.St → Option PSpA
  | ⟨[(0, .v 39 x), (2, .p 0 168 []), (3, .p 1 168 []), (8, .i .i64 i)], (.n (some (.box 168 (.v 168 z) false)) (.n (some (.box 168 (.v 168 w) false)) .e .e) .e), [], 2, some []⟩ => some (.m x z i w)
  | _ => none
theorem extSpA_ok (τ : Vm.St) (x : PSpA) (h : extSpA τ = some x) : τ = tmSpA x := by
  unfold extSpA at h
  split at h <;> first | (cases h; rfl) | cases h
theorem stepSpA (R : Type) (of : Nat → Option Ob) (x : PSpA) (K : Vm.St → Option R) (kx : Exit → Vm.St → Option R) : execC T K1 (fun _ => none) false FU (ntOf Tryz.prog 117) of R (lp (codeOf Tryz.prog 117) 0) (tmSpA x) (sortN 0 [0, 2, 3, 8] 16 K kx) = BSpA R x (fun x' => K (tmSpA x')) (ekSpA R kx) := by
  cases x with
  | m _ _ _ _ => kernel_rfl
noncomputable def HSpA : LS := loopH T K1 (fun _ => none) (ntOf Tryz.prog 117) (lp (codeOf Tryz.prog 117) 0) 0 [0, 2, 3, 8] 16 extSpA BSpA ekSpA
theorem HSpA_ok : LoopTk Tryz.prog T (ntOf Tryz.prog 117) 0 (lp (codeOf Tryz.prog 117) 0) HSpA :=
  loopH_ok follows T_ok hK1 hS1 loNat_none (loopsOK_none _) tmSpA extSpA_ok stepSpA
noncomputable def tmSpB : PSpB → Vm.St
  | .m z i w => ⟨[(2, .p 0 168 []), (3, .p 1 168 []), (5, .i .i64 i)], (.n (some (.box 168 (.v 168 z) false)) (.n (some (.box 168 (.v 168 w) false)) .e .e) .e), [], 2, some []⟩
noncomputable def ekSpB (R : Type) (kx : Exit → Vm.St → Option R) : QSpB → Option R
  | .o z i w => kx (.exit 2) ⟨[(2, .p 0 168 []), (3, .p 1 168 []), (5, .i .i64 i)], (.n (some (.box 168 (.v 168 z) false)) (.n (some (.box 168 (.v 168 w) false)) .e .e) .e), [], 16, some []⟩
noncomputable def extSpB : Vm.St → Option PSpB
  | ⟨[(2, .p 0 168 []), (3, .p 1 168 []), (5, .i .i64 i)], (.n (some (.box 168 (.v 168 z) false)) (.n (some (.box 168 (.v 168 w) false)) .e .e) .e), [], 2, some []⟩ => some (.m z i w)
  | _ => none
theorem extSpB_ok (τ : Vm.St) (x : PSpB) (h : extSpB τ = some x) : τ = tmSpB x := by
  unfold extSpB at h
  split at h <;> first | (cases h; rfl) | cases h
theorem stepSpB (R : Type) (of : Nat → Option Ob) (x : PSpB) (K : Vm.St → Option R) (kx : Exit → Vm.St → Option R) : execC T K1 (fun _ => none) false FU (ntOf Tryz.prog 117) of R (lp (codeOf Tryz.prog 117) 1) (tmSpB x) (sortN 0 [2, 3, 5] 16 K kx) = BSpB R x (fun x' => K (tmSpB x')) (ekSpB R kx) := by
  cases x with
  | m _ _ _ => kernel_rfl
noncomputable def HSpB : LS := loopH T K1 (fun _ => none) (ntOf Tryz.prog 117) (lp (codeOf Tryz.prog 117) 1) 0 [2, 3, 5] 16 extSpB BSpB ekSpB
theorem HSpB_ok : LoopTk Tryz.prog T (ntOf Tryz.prog 117) 0 (lp (codeOf Tryz.prog 117) 1) HSpB :=
  loopH_ok follows T_ok hK1 hS1 loNat_none (loopsOK_none _) tmSpB extSpB_ok stepSpB
noncomputable def LoSp : Nat → LC := atN 0 [(3, HSpA), (8, HSpB)]
theorem LoSp_ok : LoopsC Tryz.prog T 117 LoSp := loopsC_at 0 (List.forall_mem_cons.2 ⟨HSpA_ok.1, List.forall_mem_cons.2 ⟨HSpB_ok.1, fun _ h => by cases h⟩⟩) 2 (by kernel_rfl) ⟨⟨trivial, loI (s0 := HSpA) (by kernel_rfl) HSpA_ok⟩, loI (s0 := HSpB) (by kernel_rfl) HSpB_ok⟩
noncomputable def Gsp : FC := fun R xs k => match xs with
  | [x] => lpC (BSpA R) (hid FU) (.m x z64 0 z64) (fun | .o _ z _ w => lpC (BSpB R) (hid FU) (.m z 16 w) (fun | .o _ _ w => k [.d 168 w]))
  | _ => none
theorem run_sp (R : Type) (x : V) (k : List Rs → Option R) : runFC Tryz.prog T K1 LoSp false FU 117 R (mkAs T [39] [x]) (fun _ => none) 0 (fun out => ob (resC T false [.d 168] out) k) = Gsp R [x] k := by kernel_rfl
noncomputable def tab2 : List (Nat × SymC) := (117, pureS T false [39] (Fsp 168)) :: tab1
theorem tab2_ok : TabOK Tryz.prog T tab2 := by
  refine pure_run (sh := false) (rk := [.d 168]) (d := 4) (fu := FU) (Lo := LoSp) (G := Gsp) follows T_ok tab1_ok (Fsp_nat 168) (by kernel_rfl) LoSp_ok (fun R xs k htv => ?_) (fun xs rs htv hrs => ?_)
  · match xs, htv.len with
    | [x], _ => exact run_sp R x k
  · match xs, htv, htv.len with
    | [x], htv, _ =>
      obtain ⟨e, cs, hx⟩ := htv.head
      obtain ⟨bs, h1, h2⟩ := tv_slice (T := T) (el := 5) (kd := .u8) (by kernel_rfl) (by kernel_rfl) rfl hx
      simp only [Fsp] at hrs
      cases hl : Nat.ble 64 x.els.length with
      | false => rw [hl] at hrs; cases hrs
      | true =>
        rw [hl] at hrs
        have hl := Nat.le_of_ble_eq_true hl
        rw [h1, List.length_map] at hl
        exact (spread_law h1 (lt256 h2) hl HID (fun w => some [Rs.d 168 w])).trans hrs
noncomputable def K2 : KC := runAC Tryz.prog T tab2 false FU 4
theorem hK2 : K2.nat := runAC_nat tab2_ok 4
theorem hS2 : KOK Tryz.prog T K2.dir := runAC_ok follows T_ok tab2_ok 4
noncomputable def tmMxA : PMxA → Vm.St
  | .m s z w k x i => ⟨[(2, .p 0 153 []), (4, .p 1 153 []), (5, .p 3 168 []), (6, .p 4 168 []), (7, .p 5 153 []), (18, .i .i64 i)], (.n (some (.box 153 (.v 153 s) false)) (.n (some (.box 153 (.v 153 z) false)) (.n (some (.box 168 (.v 168 w) false)) .e .e) (.n (some (.box 153 (.v 153 x) false)) .e .e)) (.n none (.n (some (.box 168 (.v 168 k) false)) .e .e) .e)), [], 6, some []⟩
noncomputable def ekMxA (R : Type) (kx : Exit → Vm.St → Option R) : QMxA → Option R
  | .o s z w k x i => kx (.exit 0) ⟨[(2, .p 0 153 []), (4, .p 1 153 []), (5, .p 3 168 []), (6, .p 4 168 []), (7, .p 5 153 []), (18, .i .i64 i)], (.n (some (.box 153 (.v 153 s) false)) (.n (some (.box 153 (.v 153 z) false)) (.n (some (.box 168 (.v 168 w) false)) .e .e) (.n (some (.box 153 (.v 153 x) false)) .e .e)) (.n none (.n (some (.box 168 (.v 168 k) false)) .e .e) .e)), [], 16, some []⟩
noncomputable def extMxA : Vm.St → Option PMxA
  | ⟨[(2, .p 0 153 []), (4, .p 1 153 []), (5, .p 3 168 []), (6, .p 4 168 []), (7, .p 5 153 []), (18, .i .i64 i)], (.n (some (.box 153 (.v 153 s) false)) (.n (some (.box 153 (.v 153 z) false)) (.n (some (.box 168 (.v 168 w) false)) .e .e) (.n (some (.box 153 (.v 153 x) false)) .e .e)) (.n none (.n (some (.box 168 (.v 168 k) false)) .e .e) .e)), [], 6, some []⟩ => some (.m s z w k x i)
  | _ => none
theorem extMxA_ok (τ : Vm.St) (x : PMxA) (h : extMxA τ = some x) : τ = tmMxA x := by
  unfold extMxA at h
  split at h <;> first | (cases h; rfl) | cases h
theorem stepMxA (R : Type) (of : Nat → Option Ob) (x : PMxA) (K : Vm.St → Option R) (kx : Exit → Vm.St → Option R) : execC T K2 (fun _ => none) false FU (ntOf Tryz.prog 105) of R (lp (codeOf Tryz.prog 105) 0) (tmMxA x) (sortN 0 [2, 4, 5, 6, 7, 18] 16 K kx) = BMxA R x (fun x' => K (tmMxA x')) (ekMxA R kx) := by
  cases x with
  | m _ _ _ _ _ _ => kernel_rfl
noncomputable def HMxA : LS := loopH T K2 (fun _ => none) (ntOf Tryz.prog 105) (lp (codeOf Tryz.prog 105) 0) 0 [2, 4, 5, 6, 7, 18] 16 extMxA BMxA ekMxA
theorem HMxA_ok : LoopTk Tryz.prog T (ntOf Tryz.prog 105) 0 (lp (codeOf Tryz.prog 105) 0) HMxA :=
  loopH_ok follows T_ok hK2 hS2 loNat_none (loopsOK_none _) tmMxA extMxA_ok stepMxA
noncomputable def tmMxB : PMxB → Vm.St
  | .m s z x i => ⟨[(2, .p 0 153 []), (4, .p 1 153 []), (7, .p 5 153 []), (98, .i .i64 i)], (.n (some (.box 153 (.v 153 s) false)) (.n (some (.box 153 (.v 153 z) false)) .e (.n (some (.box 153 (.v 153 x) false)) .e .e)) .e), [], 6, some []⟩
noncomputable def ekMxB (R : Type) (kx : Exit → Vm.St → Option R) : QMxB → Option R
  | .o s z x i => kx (.exit 2) ⟨[(2, .p 0 153 []), (4, .p 1 153 []), (7, .p 5 153 []), (98, .i .i64 i)], (.n (some (.box 153 (.v 153 s) false)) (.n (some (.box 153 (.v 153 z) false)) .e (.n (some (.box 153 (.v 153 x) false)) .e .e)) .e), [], 16, some []⟩
noncomputable def extMxB : Vm.St → Option PMxB
  | ⟨[(2, .p 0 153 []), (4, .p 1 153 []), (7, .p 5 153 []), (98, .i .i64 i)], (.n (some (.box 153 (.v 153 s) false)) (.n (some (.box 153 (.v 153 z) false)) .e (.n (some (.box 153 (.v 153 x) false)) .e .e)) .e), [], 6, some []⟩ => some (.m s z x i)
  | _ => none
theorem extMxB_ok (τ : Vm.St) (x : PMxB) (h : extMxB τ = some x) : τ = tmMxB x := by
  unfold extMxB at h
  split at h <;> first | (cases h; rfl) | cases h
theorem stepMxB (R : Type) (of : Nat → Option Ob) (x : PMxB) (K : Vm.St → Option R) (kx : Exit → Vm.St → Option R) : execC T K2 (fun _ => none) false FU (ntOf Tryz.prog 105) of R (lp (codeOf Tryz.prog 105) 1) (tmMxB x) (sortN 0 [2, 4, 7, 98] 16 K kx) = BMxB R x (fun x' => K (tmMxB x')) (ekMxB R kx) := by
  cases x with
  | m _ _ _ _ => kernel_rfl
noncomputable def HMxB : LS := loopH T K2 (fun _ => none) (ntOf Tryz.prog 105) (lp (codeOf Tryz.prog 105) 1) 0 [2, 4, 7, 98] 16 extMxB BMxB ekMxB
theorem HMxB_ok : LoopTk Tryz.prog T (ntOf Tryz.prog 105) 0 (lp (codeOf Tryz.prog 105) 1) HMxB :=
  loopH_ok follows T_ok hK2 hS2 loNat_none (loopsOK_none _) tmMxB extMxB_ok stepMxB
noncomputable def LoMx : Nat → LC := atN 0 [(3, HMxA), (11, HMxB)]
theorem LoMx_ok : LoopsC Tryz.prog T 105 LoMx := loopsC_at 0 (List.forall_mem_cons.2 ⟨HMxA_ok.1, List.forall_mem_cons.2 ⟨HMxB_ok.1, fun _ h => by cases h⟩⟩) 2 (by kernel_rfl) ⟨⟨trivial, loI (s0 := HMxA) (by kernel_rfl) HMxA_ok⟩, loI (s0 := HMxB) (by kernel_rfl) HMxB_ok⟩
noncomputable def Gmx : FC := fun R xs k => match xs with
  | [s, b] => bif Nat.ble 64 b.els.length then lpC (BMxA R) (hid FU) (.m s z8 (spW b) keysV s 0) (fun | .o s z _ _ x _ => lpC (BMxB R) (hid FU) (.m s z x 0) (fun | .o s _ _ _ => k [.d 153 s])) else none
  | _ => none
theorem run_mx (R : Type) (s b : V) (k : List Rs → Option R) : runFC Tryz.prog T K2 LoMx false FU 105 R (mkAs T [153, 39] [s, b]) (fun _ => none) 0 (fun out => ob (resC T false [.d 153] out) k) = Gmx R [s, b] k := by kernel_rfl
noncomputable def tab3 : List (Nat × SymC) := (105, pureS T false [153, 39] (Fmx 153)) :: tab2
theorem tab3_ok : TabOK Tryz.prog T tab3 := by
  refine pure_run (sh := false) (rk := [.d 153]) (d := 4) (fu := FU) (Lo := LoMx) (G := Gmx) follows T_ok tab2_ok (Fmx_nat 153) (by kernel_rfl) LoMx_ok (fun R xs k htv => ?_) (fun xs rs htv hrs => ?_)
  · match xs, htv.len with
    | [s, b], _ => exact run_mx R s b k
  · match xs, htv, htv.len with
    | [s, b], htv, _ =>
      obtain ⟨e, cs, hs⟩ := htv.head
      obtain ⟨e2, cs2, hx⟩ := htv.tail.head
      obtain ⟨bs, h1, h2⟩ := tv_slice (T := T) (el := 5) (kd := .u8) (by kernel_rfl) (by kernel_rfl) rfl hx
      obtain ⟨ns, rfl, n1, n2⟩ := tv_arr (T := T) (n := 8) (el := 23) (kd := .u32) (by kernel_rfl) (by kernel_rfl) rfl hs
      obtain ⟨s8, hs8, hok⟩ := stV_of n1 n2
      rw [hs8] at hrs ⊢
      simp only [Fmx] at hrs
      cases hl : Nat.ble 64 b.els.length with
      | false => rw [hl] at hrs; cases hrs
      | true =>
        rw [hl] at hrs
        simp only [Gmx, hl, cond_true]
        have hl := Nat.le_of_ble_eq_true hl
        rw [h1, List.length_map] at hl
        exact (mix_law hok h1 (lt256 h2) hl HID (fun w => some [Rs.d 153 w])).trans hrs
noncomputable def K3 : KC := runAC Tryz.prog T tab3 false FU 4
theorem hK3 : K3.nat := runAC_nat tab3_ok 4
theorem hS3 : KOK Tryz.prog T K3.dir := runAC_ok follows T_ok tab3_ok 4
end Go.Proofs.YteoeonfajlnggaaGreat

namespace Go.Proofs.YteoeonfajlnggaaGreat
open Go.Vm
set_option maxRecDepth 100000
set_option linter.unusedVariables false
noncomputable def tmPdA : PPdA → Vm.St
  | .m b xs => ⟨[(0, .v 39 b), (3, .o 1 1)], (.n none (.n (some (.row 5 1 xs false false)) .e .e) .e), [], 2, some []⟩
noncomputable def ekPdA (R : Type) (kx : Exit → Vm.St → Option R) : QPdA → Option R
  | .o b xs => kx (.exit 0) ⟨[(0, .v 39 b), (3, .o 1 1)], (.n none (.n (some (.row 5 1 xs false false)) .e .e) .e), [], 8, some []⟩
noncomputable def extPdA : Vm.St → Option PPdA
  | ⟨[(0, .v 39 b), (3, .o 1 1)], (.n none (.n (some (.row 5 1 xs false false)) .e .e) .e), [], 2, some []⟩ => some (.m b xs)
  | _ => none
theorem extPdA_ok (τ : Vm.St) (x : PPdA) (h : extPdA τ = some x) : τ = tmPdA x := by
  unfold extPdA at h
  split at h <;> first | (cases h; rfl) | cases h
theorem stepPdA (R : Type) (of : Nat → Option Ob) (x : PPdA) (K : Vm.St → Option R) (kx : Exit → Vm.St → Option R) : execC T K3 (fun _ => none) false FU (ntOf Tryz.prog 68) of R (lp (codeOf Tryz.prog 68) 0) (tmPdA x) (sortN 0 [0, 3] 8 K kx) = BPdA R x (fun x' => K (tmPdA x')) (ekPdA R kx) := by
  cases x with
  | m _ _ => kernel_rfl
noncomputable def HPdA : LS := loopH T K3 (fun _ => none) (ntOf Tryz.prog 68) (lp (codeOf Tryz.prog 68) 0) 0 [0, 3] 8 extPdA BPdA ekPdA
theorem HPdA_ok : LoopTk Tryz.prog T (ntOf Tryz.prog 68) 0 (lp (codeOf Tryz.prog 68) 0) HPdA :=
  loopH_ok follows T_ok hK3 hS3 loNat_none (loopsOK_none _) tmPdA extPdA_ok stepPdA
noncomputable def LoPd : Nat → LC := atN 0 [(2, HPdA)]
theorem LoPd_ok : LoopsC Tryz.prog T 68 LoPd := loopsC_at 0 (List.forall_mem_cons.2 ⟨HPdA_ok.1, fun _ h => by cases h⟩) 2 (by kernel_rfl) ⟨⟨trivial, loI (s0 := HPdA) (by kernel_rfl) HPdA_ok⟩, loN (by kernel_rfl)⟩

theorem run_pd (R : Type) (b : V) (k : List Rs → Option R) : runFC Tryz.prog T K3 LoPd false FU 68 R (mkAs T [39] [b]) (fun _ => none) 0 (fun out => ob (resC T false [.r 5] out) k) = Gpd 5 R [b] k := by kernel_rfl
noncomputable def tab4 : List (Nat × SymC) := (68, pureS T false [39] (Fpd 5)) :: tab3
theorem tab4_ok : TabOK Tryz.prog T tab4 := by
  refine pure_run (sh := false) (rk := [.r 5]) (d := 4) (fu := FU) (Lo := LoPd) (G := Gpd 5) follows T_ok tab3_ok (Fpd_nat 5) (by kernel_rfl) LoPd_ok (fun R xs k htv => ?_) (fun xs rs htv hrs => ?_)
  · match xs, htv.len with
    | [b], _ => exact run_pd R b k
  · match xs, htv.len with
    | [b], _ => exact pd_law 5 hrs
noncomputable def K4 : KC := runAC Tryz.prog T tab4 false FU 4
theorem hK4 : K4.nat := runAC_nat tab4_ok 4
theorem hS4 : KOK Tryz.prog T K4.dir := runAC_ok follows T_ok tab4_ok 4
noncomputable def tmSmA : PSmA → Vm.St
  | .m z v xs kk at_ ws i => ⟨[(2, .p 0 35 []), (3, .p 1 112 []), (4, .o 2 1), (5, .p 4 113 []), (6, .i .i64 at_), (7, .o 5 1), (8, .i .i64 i)], (.n (some (.box 35 (.v 35 z) false)) (.n (some (.box 112 (.v 112 v) false)) .e (.n (some (.row 98 1 ws false false)) .e .e)) (.n (some (.row 5 1 xs false false)) (.n (some (.box 113 (.v 113 kk) false)) .e .e) .e)), [], 6, some []⟩
noncomputable def ekSmA (R : Type) (kx : Exit → Vm.St → Option R) : QSmA → Option R
  | .o z v xs kk at_ ws i => kx (.exit 2) ⟨[(2, .p 0 35 []), (3, .p 1 112 []), (4, .o 2 1), (5, .p 4 113 []), (6, .i .i64 at_), (7, .o 5 1), (8, .i .i64 i)], (.n (some (.box 35 (.v 35 z) false)) (.n (some (.box 112 (.v 112 v) false)) .e (.n (some (.row 98 1 ws false false)) .e .e)) (.n (some (.row 5 1 xs false false)) (.n (some (.box 113 (.v 113 kk) false)) .e .e) .e)), [], 16, some []⟩
noncomputable def extSmA : Vm.St → Option PSmA
  | ⟨[(2, .p 0 35 []), (3, .p 1 112 []), (4, .o 2 1), (5, .p 4 113 []), (6, .i .i64 at_), (7, .o 5 1), (8, .i .i64 i)], (.n (some (.box 35 (.v 35 z) false)) (.n (some (.box 112 (.v 112 v) false)) .e (.n (some (.row 98 1 ws false false)) .e .e)) (.n (some (.row 5 1 xs false false)) (.n (some (.box 113 (.v 113 kk) false)) .e .e) .e)), [], 6, some []⟩ => some (.m z v xs kk at_ ws i)
  | _ => none
theorem extSmA_ok (τ : Vm.St) (x : PSmA) (h : extSmA τ = some x) : τ = tmSmA x := by
  unfold extSmA at h
  split at h <;> first | (cases h; rfl) | cases h
theorem stepSmA (R : Type) (of : Nat → Option Ob) (x : PSmA) (K : Vm.St → Option R) (kx : Exit → Vm.St → Option R) : execC T K4 (fun _ => none) false FU (ntOf Tryz.prog 55) of R (lp (codeOf Tryz.prog 55) 1) (tmSmA x) (sortN 0 [2, 3, 4, 5, 6, 7, 8] 16 K kx) = BSmA R x (fun x' => K (tmSmA x')) (ekSmA R kx) := by
  cases x with
  | m _ _ _ _ _ _ _ => kernel_rfl
noncomputable def HSmA : LS := loopH T K4 (fun _ => none) (ntOf Tryz.prog 55) (lp (codeOf Tryz.prog 55) 1) 0 [2, 3, 4, 5, 6, 7, 8] 16 extSmA BSmA ekSmA
theorem HSmA_ok : LoopTk Tryz.prog T (ntOf Tryz.prog 55) 0 (lp (codeOf Tryz.prog 55) 1) HSmA :=
  loopH_ok follows T_ok hK4 hS4 loNat_none (loopsOK_none _) tmSmA extSmA_ok stepSmA
noncomputable def tmSmB : PSmB → Vm.St
  | .m z v xs kk at_ ws x i => ⟨[(2, .p 0 35 []), (3, .p 1 112 []), (4, .o 2 1), (5, .p 4 113 []), (6, .i .i64 at_), (7, .o 5 1), (13, .p 16 112 []), (14, .i .i64 i)], (.n (some (.box 35 (.v 35 z) false)) (.n (some (.box 112 (.v 112 v) false)) .e (.n (some (.row 98 1 ws false false)) .e .e)) (.n (some (.row 5 1 xs false false)) (.n (some (.box 113 (.v 113 kk) false)) (.n none (.n (some (.box 112 (.v 112 x) false)) .e .e) .e) .e) .e)), [], 17, some []⟩
noncomputable def ekSmB (R : Type) (kx : Exit → Vm.St → Option R) : QSmB → Option R
  | .o z v xs kk at_ ws x i => kx (.exit 6) ⟨[(2, .p 0 35 []), (3, .p 1 112 []), (4, .o 2 1), (5, .p 4 113 []), (6, .i .i64 at_), (7, .o 5 1), (13, .p 16 112 []), (14, .i .i64 i)], (.n (some (.box 35 (.v 35 z) false)) (.n (some (.box 112 (.v 112 v) false)) .e (.n (some (.row 98 1 ws false false)) .e .e)) (.n (some (.row 5 1 xs false false)) (.n (some (.box 113 (.v 113 kk) false)) (.n none (.n (some (.box 112 (.v 112 x) false)) .e .e) .e) .e) .e)), [], 32, some []⟩
noncomputable def extSmB : Vm.St → Option PSmB
  | ⟨[(2, .p 0 35 []), (3, .p 1 112 []), (4, .o 2 1), (5, .p 4 113 []), (6, .i .i64 at_), (7, .o 5 1), (13, .p 16 112 []), (14, .i .i64 i)], (.n (some (.box 35 (.v 35 z) false)) (.n (some (.box 112 (.v 112 v) false)) .e (.n (some (.row 98 1 ws false false)) .e .e)) (.n (some (.row 5 1 xs false false)) (.n (some (.box 113 (.v 113 kk) false)) (.n none (.n (some (.box 112 (.v 112 x) false)) .e .e) .e) .e) .e)), [], 17, some []⟩ => some (.m z v xs kk at_ ws x i)
  | _ => none
theorem extSmB_ok (τ : Vm.St) (x : PSmB) (h : extSmB τ = some x) : τ = tmSmB x := by
  unfold extSmB at h
  split at h <;> first | (cases h; rfl) | cases h
theorem stepSmB (R : Type) (of : Nat → Option Ob) (x : PSmB) (K : Vm.St → Option R) (kx : Exit → Vm.St → Option R) : execC T K4 (fun _ => none) false FU (ntOf Tryz.prog 55) of R (lp (codeOf Tryz.prog 55) 3) (tmSmB x) (sortN 0 [2, 3, 4, 5, 6, 7, 13, 14] 32 K kx) = BSmB R x (fun x' => K (tmSmB x')) (ekSmB R kx) := by
  cases x with
  | m _ _ _ _ _ _ _ _ => kernel_rfl
noncomputable def HSmB : LS := loopH T K4 (fun _ => none) (ntOf Tryz.prog 55) (lp (codeOf Tryz.prog 55) 3) 0 [2, 3, 4, 5, 6, 7, 13, 14] 32 extSmB BSmB ekSmB
theorem HSmB_ok : LoopTk Tryz.prog T (ntOf Tryz.prog 55) 0 (lp (codeOf Tryz.prog 55) 3) HSmB :=
  loopH_ok follows T_ok hK4 hS4 loNat_none (loopsOK_none _) tmSmB extSmB_ok stepSmB
noncomputable def tmSmO : PSmO → Vm.St
  | .m z v xs kk at_ => ⟨[(2, .p 0 35 []), (3, .p 1 112 []), (4, .o 2 1), (5, .p 4 113 []), (6, .i .i64 at_)], (.n (some (.box 35 (.v 35 z) false)) (.n (some (.box 112 (.v 112 v) false)) .e .e) (.n (some (.row 5 1 xs false false)) (.n (some (.box 113 (.v 113 kk) false)) .e .e) .e)), [], 5, some []⟩
noncomputable def ekSmO (R : Type) (kx : Exit → Vm.St → Option R) : QSmO → Option R
  | .o z v xs kk at_ => kx (.exit 0) ⟨[(2, .p 0 35 []), (3, .p 1 112 []), (4, .o 2 1), (5, .p 4 113 []), (6, .i .i64 at_)], (.n (some (.box 35 (.v 35 z) false)) (.n (some (.box 112 (.v 112 v) false)) .e .e) (.n (some (.row 5 1 xs false false)) (.n (some (.box 113 (.v 113 kk) false)) .e .e) .e)), [], 64, some []⟩
noncomputable def extSmO : Vm.St → Option PSmO
  | ⟨[(2, .p 0 35 []), (3, .p 1 112 []), (4, .o 2 1), (5, .p 4 113 []), (6, .i .i64 at_)], (.n (some (.box 35 (.v 35 z) false)) (.n (some (.box 112 (.v 112 v) false)) .e .e) (.n (some (.row 5 1 xs false false)) (.n (some (.box 113 (.v 113 kk) false)) .e .e) .e)), [], 5, some []⟩ => some (.m z v xs kk at_)
  | _ => none
theorem extSmO_ok (τ : Vm.St) (x : PSmO) (h : extSmO τ = some x) : τ = tmSmO x := by
  unfold extSmO at h
  split at h <;> first | (cases h; rfl) | cases h
theorem stepSmO (R : Type) (of : Nat → Option Ob) (x : PSmO) (K : Vm.St → Option R) (kx : Exit → Vm.St → Option R) : execC T K4 (loT [(9, HSmA), (23, HSmB)]) false FU (ntOf Tryz.prog 55) of R (lp (codeOf Tryz.prog 55) 0) (tmSmO x) (sortN 0 [2, 3, 4, 5, 6] 64 K kx) = BSmO R x (fun x' => K (tmSmO x')) (ekSmO R kx) := by
  cases x with
  | m _ _ _ _ _ => kernel_rfl
noncomputable def HSmO : LS := loopH T K4 (loT [(9, HSmA), (23, HSmB)]) (ntOf Tryz.prog 55) (lp (codeOf Tryz.prog 55) 0) 0 [2, 3, 4, 5, 6] 64 extSmO BSmO ekSmO
theorem HSmO_ok : LoopTk Tryz.prog T (ntOf Tryz.prog 55) 0 (lp (codeOf Tryz.prog 55) 0) HSmO :=
  loopH_ok follows T_ok hK4 hS4 (loT_nat (List.forall_mem_cons.2 ⟨HSmA_ok.1, List.forall_mem_cons.2 ⟨HSmB_ok.1, fun _ h => by cases h⟩⟩)) (loopsOK_at 5 (by kernel_rfl) ⟨⟨⟨⟨⟨trivial, loI (s0 := HSmA) (by kernel_rfl) ((show lp (lp (codeOf Tryz.prog 55) 0) 0 = lp (codeOf Tryz.prog 55) 1 from by kernel_rfl) ▸ HSmA_ok)⟩, loN (by kernel_rfl)⟩, loI (s0 := HSmB) (by kernel_rfl) ((show lp (lp (codeOf Tryz.prog 55) 0) 2 = lp (codeOf Tryz.prog 55) 3 from by kernel_rfl) ▸ HSmB_ok)⟩, loN (by kernel_rfl)⟩, loN (by kernel_rfl)⟩) tmSmO extSmO_ok stepSmO
noncomputable def LoSm : Nat → LC := atN 0 [(5, HSmO)]
theorem LoSm_ok : LoopsC Tryz.prog T 55 LoSm := loopsC_at 0 (List.forall_mem_cons.2 ⟨HSmO_ok.1, fun _ h => by cases h⟩) 8 (by kernel_rfl) ⟨⟨⟨⟨⟨⟨⟨⟨trivial, loI (s0 := HSmO) (by kernel_rfl) HSmO_ok⟩, loN (by kernel_rfl)⟩, loN (by kernel_rfl)⟩, loN (by kernel_rfl)⟩, loN (by kernel_rfl)⟩, loN (by kernel_rfl)⟩, loN (by kernel_rfl)⟩, loN (by kernel_rfl)⟩

theorem run_sm (R : Type) (b : V) (k : List Rs → Option R) : runFC Tryz.prog T K4 LoSm false FU 55 R (mkAs T [39] [b]) (fun _ => none) 0 (fun out => ob (resC T false [.d 35] out) k) = Gsm 35 R [b] k := by kernel_rfl
noncomputable def tab5 : List (Nat × SymC) := (55, pureS T false [39] (Fsm 35)) :: tab4
theorem tab5_ok : TabOK Tryz.prog T tab5 := by
  refine pure_run (sh := false) (rk := [.d 35]) (d := 4) (fu := FU) (Lo := LoSm) (G := Gsm 35) follows T_ok tab4_ok (Fsm_nat 35) (by kernel_rfl) LoSm_ok (fun R xs k htv => ?_) (fun xs rs htv hrs => ?_)
  · match xs, htv.len with
    | [b], _ => exact run_sm R b k
  · match xs, htv, htv.len with
    | [b], htv, _ =>
      obtain ⟨e, cs, hx⟩ := htv.head
      obtain ⟨bs, h1, h2⟩ := tv_slice (T := T) (el := 5) (kd := .u8) (by kernel_rfl) (by kernel_rfl) rfl hx
      exact sm_law 35 h1 (lt256 h2) hrs
noncomputable def K5 : KC := runAC Tryz.prog T tab5 false FU 4
theorem hK5 : K5.nat := runAC_nat tab5_ok 4
theorem hS5 : KOK Tryz.prog T K5.dir := runAC_ok follows T_ok tab5_ok 4
end Go.Proofs.YteoeonfajlnggaaGreat

namespace Go.Proofs.YteoeonfajlnggaaGreat
open Go.Vm
set_option maxRecDepth 100000
set_option linter.unusedVariables false
noncomputable def tabA0 : List (Nat × Sym) := [(105, (pureS T false [153, 39] (seeF (Fmx 153))).dir), (55, (pureS T false [39] (seeF (Fsm 35))).dir), (79, cmpS T 39), (166, carry64), (167, borrow64)]
theorem tabA0_ok : AllS Tryz.prog T tabA0 := ⟨TabOK.see (TabOK.at tab3_ok (by kernel_rfl)), TabOK.see (TabOK.at tab5_ok (by kernel_rfl)), cmp_ok (u8 := 5) (by kernel_rfl) (by kernel_rfl) Tryz.func79 (by kernel_rfl) (by kernel_rfl) (by kernel_rfl) (by kernel_rfl), carry64_ok Tryz.func166 (by kernel_rfl) (by kernel_rfl) (by kernel_rfl) (by kernel_rfl), borrow64_ok Tryz.func167 (by kernel_rfl) (by kernel_rfl) (by kernel_rfl) (by kernel_rfl), trivial⟩
theorem alive_run : ob (runZ Tryz.prog T tabA0 100000 60 6 (mkAs T [] []) (fun _ => none) 0) (fun out => resC T true [.d 4] out) = some [.d 4 (.b true)] := by kernel_rfl
noncomputable def aliveC : SymC := pureS T true [] (gF (fun _ => true) (fun _ => [.d 4 (.b true)]))
theorem aliveC_nat : aliveC.nat := pureS_nat (gF_nat _ _)
theorem alive : SymOK Tryz.prog T 6 aliveC.dir :=
  pure_ok (s := ofSym (runZ Tryz.prog T tabA0 100000 60 6)) (ofSym_nat _) (by rw [ofSym_dir]; exact runZ_ok follows T_ok tabA0_ok) (rk := [.d 4]) (gF_nat _ _) rfl (fun xs rs htv hrs => by
    have hl := htv.len
    cases xs with
    | cons _ _ => cases hl
    | nil =>
      obtain ⟨_, rfl⟩ := gF_at hrs
      exact alive_run)
end Go.Proofs.YteoeonfajlnggaaGreat

namespace Go.Proofs.YteoeonfajlnggaaGreat
open Go.RowKit Go.Vm
open Go.ChangeMaps (setBlock)
set_option linter.unusedVariables false
set_option maxRecDepth 1000000 in
theorem totals : Totals Tryz.prog 13 := by
  intro Bp bm es clock w hBp hp hb hst hv
  have hbm : bm < w.heap.size := (Array.getElem?_eq_some_iff.1 hb).1
  have hrg := run_range_map (P := Tryz.prog) w 79 _ _ bm es clock Tryz.underlying79 hb
  go_enter Tryz.func13, Tryz.ntmps13
  go_wp2
  go_loopw [3] (fun s wr => ∃ seen : Array Nat, wr.heap[w.heap.size]? = some (.mapIter (some bm) clock seen clock) ∧ Below w.heap.size w wr ∧ s = .int .i64 (IntKind.wrap .i64 (sumSeen es.toList seen))) (fun _ wr => (leftOf es (wr.iterSeen w.heap.size)).size)
  case atStart => exact ⟨#[], heap_alloc_new _ _, (Below.refl _ _).alloc (Nat.le_refl _) _, by rw [sumSeen_none]; rfl⟩
  case round =>
    obtain ⟨seen, hit, hbl, rfl⟩ := hrel
    have hb1 := (hbl.block bm hbm).trans hb
    have hwr : w.heap.size < wr.heap.size := (Array.getElem?_eq_some_iff.1 hit).1
    rcases run_next_at (P := Tryz.prog) wr 0 w.heap.size bm clock clock seen es clock hit hb1 hst.1 (Nat.le_refl _) with ⟨h0, hrun⟩ | ⟨e, he, w1, hw1, hrun⟩
    · have hnx : ∀ ty, (Instr.next (.pointer (some ⟨w.heap.size, 0, none⟩)) false ty).run Tryz.prog wr = _ := fun _ => hrun
      go_wp2
      go_ret
      refine ⟨?_, hbl⟩
      rw [sumSeen_full _ _ (all_seen es seen h0)]; rfl
    · obtain ⟨n, x1, x2, x3, x4, x5, hval⟩ := hv e (mem_left he).1
      have hw1h : w1.heap = wr.heap := by rcases hw1 with rfl | rfl <;> rfl
      have hbl1 : Below w.heap.size w w1 := by rcases hw1 with rfl | rfl; exact hbl; exact hbl.drew
      have hnx : ∀ ty, (Instr.next (.pointer (some ⟨w.heap.size, 0, none⟩)) false ty).run Tryz.prog wr = _ := fun _ => hrun
      generalize hw2 : setBlock w1 w.heap.size (.mapIter (some bm) clock (seen.push e.born) clock) = w2 at hnx
      have hsz2 : w2.heap.size = wr.heap.size := by rw [← hw2, ← hw1h]; simp [setBlock]
      have hit2 : w2.heap[w.heap.size]? = some (.mapIter (some bm) clock (seen.push e.born) clock) := by
        rw [← hw2]; simp [setBlock, hw1h, hwr]
      have hne2 : ∀ k, k ≠ w.heap.size → w2.heap[k]? = w1.heap[k]? := fun k hk => by rw [← hw2]; simp [setBlock, Ne.symm hk]
      have hbl2 : Below w.heap.size w w2 := hbl1.trans ⟨by rw [← hw2]; rfl, by rw [← hw2]; rfl, by rw [← hw2]; rfl, by rw [hsz2, hw1h]; exact Nat.le_refl _, fun k hk => hne2 k (by omega)⟩
      have hb2 := (hbl2.block bm hbm).trans hb
      have hen := run_entry_at (P := Tryz.prog) w2 w.heap.size bm clock seen es clock e hit2 hb2 (mem_left he).1 hst.2
      rw [hval] at hen
      go_wp2
      have hlt2 : w.heap.size < w2.heap.size := by omega
      have hitS : ∀ (v : World), v.heap[w.heap.size]? = some (.mapIter (some bm) clock (seen.push e.born) clock) → v.iterSeen w.heap.size = seen.push e.born := fun v hv => by unfold World.iterSeen; rw [hv]
      have hitW : wr.iterSeen w.heap.size = seen := by unfold World.iterSeen; rw [hit]
      refine ⟨⟨seen.push e.born, (heap_alloc_old _ _ hlt2).trans hit2, hbl2.alloc (by omega) _, ?_⟩, ?_⟩
      · rw [sumSeen_push seen e (mem_left he).2 es.toList hst.2 (mem_left he).1, hval]
        show Value.int IntKind.i64 _ = _
        congr 1
        show _ = IntKind.wrap .i64 (sumSeen es.toList seen + n)
        rw [wrap_i64, wrap64_add]
      · rw [hitS _ ((heap_alloc_old _ _ hlt2).trans hit2), hitW]
        exact left_shrinks es seen e he
theorem totalEnters : ∀ args w, (callFunc 13 args).run Tryz.prog w = .ok (.enter 13 args) w := Go.Proofs.enters_of Tryz.func13 (by kernel_rfl) rfl
end Go.Proofs.YteoeonfajlnggaaGreat

namespace Go.Proofs.YteoeonfajlnggaaGreat
open Go.Vm
set_option maxRecDepth 100000
set_option linter.unusedVariables false
set_option linter.constructorNameAsVariable false
noncomputable def tmHi : PHi → Vm.St
  | .b s m l xs n i nl sh => ⟨[(0, .p 0 156 []), (6, .v 117 (.l l)), (7, .i .i64 n), (8, .i .i64 i)], (.n (some (.box 156 (.g 156 [.v 153 s, .o 1 1, .i .u64 m]) false)) (.n (some (.row 5 1 xs nl sh)) .e .e) .e), [0], 2, some []⟩
  | .c s m l xs n i off q sh => ⟨[(0, .p 0 156 []), (6, .v 117 (.l l)), (7, .i .i64 n), (8, .i .i64 i)], (.n (some (.box 156 (.g 156 [.v 153 s, .w 1 1 off q, .i .u64 m]) false)) (.n (some (.row 5 1 xs false sh)) .e .e) .e), [0], 2, some []⟩
noncomputable def ekHi (R : Type) (kx : Exit → Vm.St → Option R) : QHi → Option R
  | .b s m l xs n i nl sh => kx (.exit 2) ⟨[(0, .p 0 156 []), (6, .v 117 (.l l)), (7, .i .i64 n), (8, .i .i64 i)], (.n (some (.box 156 (.g 156 [.v 153 s, .o 1 1, .i .u64 m]) false)) (.n (some (.row 5 1 xs nl sh)) .e .e) .e), [0], 16, some []⟩
  | .c s m l xs n i off q sh => kx (.exit 2) ⟨[(0, .p 0 156 []), (6, .v 117 (.l l)), (7, .i .i64 n), (8, .i .i64 i)], (.n (some (.box 156 (.g 156 [.v 153 s, .w 1 1 off q, .i .u64 m]) false)) (.n (some (.row 5 1 xs false sh)) .e .e) .e), [0], 16, some []⟩
noncomputable def extHi : Vm.St → Option PHi
  | ⟨[(0, .p 0 156 []), (6, .v 117 (.l l)), (7, .i .i64 n), (8, .i .i64 i)], (.n (some (.box 156 (.g 156 [.v 153 s, .o 1 1, .i .u64 m]) false)) (.n (some (.row 5 1 xs nl sh)) .e .e) .e), [0], 2, some []⟩ => some (.b s m l xs n i nl sh)
  | ⟨[(0, .p 0 156 []), (6, .v 117 (.l l)), (7, .i .i64 n), (8, .i .i64 i)], (.n (some (.box 156 (.g 156 [.v 153 s, .w 1 1 off q, .i .u64 m]) false)) (.n (some (.row 5 1 xs false sh)) .e .e) .e), [0], 2, some []⟩ => some (.c s m l xs n i off q sh)
  | _ => none
theorem extHi_ok (τ : Vm.St) (x : PHi) (h : extHi τ = some x) : τ = tmHi x := by
  unfold extHi at h
  split at h <;> first | (cases h; rfl) | cases h
theorem stepHi (R : Type) (of : Nat → Option Ob) (x : PHi) (K : Vm.St → Option R) (kx : Exit → Vm.St → Option R) : execC T K5 (fun _ => none) false FU (ntOf Tryz.prog 86) of R (lp (codeOf Tryz.prog 86) 1) (tmHi x) (sortN 1 [0, 6, 7, 8] 16 K kx) = BHi R x (fun x' => K (tmHi x')) (ekHi R kx) := by
  cases x with
  | b _ _ _ _ _ _ nl _ => cases nl <;> kernel_rfl
  | c _ _ _ _ _ _ _ _ _ => kernel_rfl
noncomputable def HHi : LS := loopH T K5 (fun _ => none) (ntOf Tryz.prog 86) (lp (codeOf Tryz.prog 86) 1) 1 [0, 6, 7, 8] 16 extHi BHi ekHi
theorem HHi_ok : LoopTk Tryz.prog T (ntOf Tryz.prog 86) 1 (lp (codeOf Tryz.prog 86) 1) HHi :=
  loopH_ok follows T_ok hK5 hS5 loNat_none (loopsOK_none _) tmHi extHi_ok stepHi
noncomputable def tmHo : PHo → Vm.St
  | .a s m l n i => ⟨[(0, .p 0 156 []), (6, .v 117 (.l l)), (7, .i .i64 n), (8, .i .i64 i)], (.n (some (.box 156 (.v 156 (.l [s, .n, .i m])) false)) .e .e), [0], 1, some []⟩
  | .b s m l xs n i nl sh => ⟨[(0, .p 0 156 []), (6, .v 117 (.l l)), (7, .i .i64 n), (8, .i .i64 i)], (.n (some (.box 156 (.g 156 [.v 153 s, .o 1 1, .i .u64 m]) false)) (.n (some (.row 5 1 xs nl sh)) .e .e) .e), [0], 2, some []⟩
  | .c s m l xs n i off q sh => ⟨[(0, .p 0 156 []), (6, .v 117 (.l l)), (7, .i .i64 n), (8, .i .i64 i)], (.n (some (.box 156 (.g 156 [.v 153 s, .w 1 1 off q, .i .u64 m]) false)) (.n (some (.row 5 1 xs false sh)) .e .e) .e), [0], 2, some []⟩
noncomputable def ekHo (R : Type) (kx : Exit → Vm.St → Option R) : QHo → Option R
  | .a s m l n i => kx (.exit 0) ⟨[(0, .p 0 156 []), (6, .v 117 (.l l)), (7, .i .i64 n), (8, .i .i64 i)], (.n (some (.box 156 (.v 156 (.l [s, .n, .i m])) false)) .e .e), [0], 64, some []⟩
  | .b s m l xs n i nl sh => kx (.exit 0) ⟨[(0, .p 0 156 []), (6, .v 117 (.l l)), (7, .i .i64 n), (8, .i .i64 i)], (.n (some (.box 156 (.g 156 [.v 153 s, .o 1 1, .i .u64 m]) false)) (.n (some (.row 5 1 xs nl sh)) .e .e) .e), [0], 64, some []⟩
  | .c s m l xs n i off q sh => kx (.exit 0) ⟨[(0, .p 0 156 []), (6, .v 117 (.l l)), (7, .i .i64 n), (8, .i .i64 i)], (.n (some (.box 156 (.g 156 [.v 153 s, .w 1 1 off q, .i .u64 m]) false)) (.n (some (.row 5 1 xs false sh)) .e .e) .e), [0], 64, some []⟩
noncomputable def extHo_0 : Vm.St → Option PHo
  | ⟨[(0, .p 0 156 []), (6, .v 117 (.l l)), (7, .i .i64 n), (8, .i .i64 i)], (.n (some (.box 156 (.v 156 (.l [s, .n, .i m])) false)) .e .e), [0], 1, some []⟩ => some (.a s m l n i)
  | _ => none
theorem extHo_0_ok (τ : Vm.St) (x : PHo) (h : extHo_0 τ = some x) : τ = tmHo x := by
  unfold extHo_0 at h
  split at h <;> first | (cases h; rfl) | cases h
noncomputable def extHo_1 : Vm.St → Option PHo
  | ⟨[(0, .p 0 156 []), (6, .v 117 (.l l)), (7, .i .i64 n), (8, .i .i64 i)], (.n (some (.box 156 (.g 156 [.v 153 s, .o 1 1, .i .u64 m]) false)) (.n (some (.row 5 1 xs nl sh)) .e .e) .e), [0], 2, some []⟩ => some (.b s m l xs n i nl sh)
  | _ => none
theorem extHo_1_ok (τ : Vm.St) (x : PHo) (h : extHo_1 τ = some x) : τ = tmHo x := by
  unfold extHo_1 at h
  split at h <;> first | (cases h; rfl) | cases h
noncomputable def extHo_2 : Vm.St → Option PHo
  | ⟨[(0, .p 0 156 []), (6, .v 117 (.l l)), (7, .i .i64 n), (8, .i .i64 i)], (.n (some (.box 156 (.g 156 [.v 153 s, .w 1 1 off q, .i .u64 m]) false)) (.n (some (.row 5 1 xs false sh)) .e .e) .e), [0], 2, some []⟩ => some (.c s m l xs n i off q sh)
  | _ => none
theorem extHo_2_ok (τ : Vm.St) (x : PHo) (h : extHo_2 τ = some x) : τ = tmHo x := by
  unfold extHo_2 at h
  split at h <;> first | (cases h; rfl) | cases h
noncomputable def extHo (τ : Vm.St) : Option PHo := oc (extHo_0 τ) some (oc (extHo_1 τ) some (oc (extHo_2 τ) some (none)))
theorem extHo_ok (τ : Vm.St) (x : PHo) (h : extHo τ = some x) : τ = tmHo x := by
  unfold extHo at h
  cases h0 : extHo_0 τ with
  | some y => rw [h0] at h; cases h; exact extHo_0_ok τ _ h0
  | none =>
  rw [h0] at h; simp only [oc] at h
  cases h1 : extHo_1 τ with
  | some y => rw [h1] at h; cases h; exact extHo_1_ok τ _ h1
  | none =>
  rw [h1] at h; simp only [oc] at h
  cases h2 : extHo_2 τ with
  | some y => rw [h2] at h; cases h; exact extHo_2_ok τ _ h2
  | none =>
  rw [h2] at h; simp only [oc] at h
  cases h
theorem stepHo (R : Type) (of : Nat → Option Ob) (x : PHo) (K : Vm.St → Option R) (kx : Exit → Vm.St → Option R) : execC T K5 (loT [(5, HHi)]) false FU (ntOf Tryz.prog 86) of R (lp (codeOf Tryz.prog 86) 0) (tmHo x) (sortN 1 [0, 6, 7, 8] 64 K kx) = BHo R x (fun x' => K (tmHo x')) (ekHo R kx) := by
  cases x with
  | a _ _ _ _ _ => kernel_rfl
  | b _ _ _ _ _ _ _ _ => kernel_rfl
  | c _ _ _ _ _ _ _ _ _ => kernel_rfl
noncomputable def HHo : LS := loopH T K5 (loT [(5, HHi)]) (ntOf Tryz.prog 86) (lp (codeOf Tryz.prog 86) 0) 1 [0, 6, 7, 8] 64 extHo BHo ekHo
theorem HHo_ok : LoopTk Tryz.prog T (ntOf Tryz.prog 86) 1 (lp (codeOf Tryz.prog 86) 0) HHo :=
  loopH_ok follows T_ok hK5 hS5 (loT_nat (List.forall_mem_cons.2 ⟨HHi_ok.1, fun _ h => by cases h⟩)) (loopsOK_at 1 (by kernel_rfl) ⟨trivial, loI (s0 := HHi) (by kernel_rfl) ((show lp (lp (codeOf Tryz.prog 86) 0) 0 = lp (codeOf Tryz.prog 86) 1 from by kernel_rfl) ▸ HHi_ok)⟩) tmHo extHo_ok stepHo
noncomputable def LoHAd : Nat → LC := atN 1 [(1, HHo), (5, HHi)]
theorem LoHAd_ok : LoopsC Tryz.prog T 86 LoHAd := loopsC_at 1 (List.forall_mem_cons.2 ⟨HHo_ok.1, List.forall_mem_cons.2 ⟨HHi_ok.1, fun _ h => by cases h⟩⟩) 2 (by kernel_rfl) ⟨⟨trivial, loI (s0 := HHo) (by kernel_rfl) HHo_ok⟩, loI (s0 := HHi) (by kernel_rfl) HHi_ok⟩
noncomputable def tmHp : PHp → Vm.St
  | .b s m rs nl sh z xs => ⟨[(0, .p 0 156 []), (2, .p 2 35 []), (3, .o 3 1)], (.n (some (.box 156 (.g 156 [.v 153 s, .o 1 1, .i .u64 m]) false)) (.n (some (.row 5 1 rs nl sh)) (.n (some (.row 5 1 xs false false)) .e .e) .e) (.n (some (.box 35 (.v 35 z) false)) .e .e)), [1, 0], 4, some []⟩
  | .c s m rs off q sh z xs => ⟨[(0, .p 0 156 []), (2, .p 2 35 []), (3, .o 3 1)], (.n (some (.box 156 (.g 156 [.v 153 s, .w 1 1 off q, .i .u64 m]) false)) (.n (some (.row 5 1 rs false sh)) (.n (some (.row 5 1 xs false false)) .e .e) .e) (.n (some (.box 35 (.v 35 z) false)) .e .e)), [1, 0], 4, some []⟩
noncomputable def ekHp (R : Type) (kx : Exit → Vm.St → Option R) : QHp → Option R
  | .b s m rs nl sh z xs => kx (.exit 0) ⟨[(0, .p 0 156 []), (2, .p 2 35 []), (3, .o 3 1)], (.n (some (.box 156 (.g 156 [.v 153 s, .o 1 1, .i .u64 m]) false)) (.n (some (.row 5 1 rs nl sh)) (.n (some (.row 5 1 xs false false)) .e .e) .e) (.n (some (.box 35 (.v 35 z) false)) .e .e)), [1, 0], 16, some []⟩
  | .c s m rs off q sh z xs => kx (.exit 0) ⟨[(0, .p 0 156 []), (2, .p 2 35 []), (3, .o 3 1)], (.n (some (.box 156 (.g 156 [.v 153 s, .w 1 1 off q, .i .u64 m]) false)) (.n (some (.row 5 1 rs false sh)) (.n (some (.row 5 1 xs false false)) .e .e) .e) (.n (some (.box 35 (.v 35 z) false)) .e .e)), [1, 0], 16, some []⟩
noncomputable def extHp : Vm.St → Option PHp
  | ⟨[(0, .p 0 156 []), (2, .p 2 35 []), (3, .o 3 1)], (.n (some (.box 156 (.g 156 [.v 153 s, .o 1 1, .i .u64 m]) false)) (.n (some (.row 5 1 rs nl sh)) (.n (some (.row 5 1 xs false false)) .e .e) .e) (.n (some (.box 35 (.v 35 z) false)) .e .e)), [1, 0], 4, some []⟩ => some (.b s m rs nl sh z xs)
  | ⟨[(0, .p 0 156 []), (2, .p 2 35 []), (3, .o 3 1)], (.n (some (.box 156 (.g 156 [.v 153 s, .w 1 1 off q, .i .u64 m]) false)) (.n (some (.row 5 1 rs false sh)) (.n (some (.row 5 1 xs false false)) .e .e) .e) (.n (some (.box 35 (.v 35 z) false)) .e .e)), [1, 0], 4, some []⟩ => some (.c s m rs off q sh z xs)
  | _ => none
theorem extHp_ok (τ : Vm.St) (x : PHp) (h : extHp τ = some x) : τ = tmHp x := by
  unfold extHp at h
  split at h <;> first | (cases h; rfl) | cases h
theorem stepHp (R : Type) (of : Nat → Option Ob) (x : PHp) (K : Vm.St → Option R) (kx : Exit → Vm.St → Option R) : execC T K5 (fun _ => none) false FU (ntOf Tryz.prog 87) of R (lp (codeOf Tryz.prog 87) 0) (tmHp x) (sortN 2 [0, 2, 3] 16 K kx) = BHp R x (fun x' => K (tmHp x')) (ekHp R kx) := by
  cases x with
  | b _ _ _ _ _ _ _ => kernel_rfl
  | c _ _ _ _ _ _ _ _ => kernel_rfl
noncomputable def HHp : LS := loopH T K5 (fun _ => none) (ntOf Tryz.prog 87) (lp (codeOf Tryz.prog 87) 0) 2 [0, 2, 3] 16 extHp BHp ekHp
theorem HHp_ok : LoopTk Tryz.prog T (ntOf Tryz.prog 87) 2 (lp (codeOf Tryz.prog 87) 0) HHp :=
  loopH_ok follows T_ok hK5 hS5 loNat_none (loopsOK_none _) tmHp extHp_ok stepHp
noncomputable def tmHm : PHm → Vm.St
  | .b0 s m rs nl sh z st xs => ⟨[(2, .p 2 35 []), (3, .o 3 1), (6, .p 24 153 [])], (.n (some (.box 156 (.g 156 [.v 153 s, .o 1 1, .i .u64 m]) false)) (.n (some (.row 5 1 rs nl sh)) (.n (some (.row 5 1 xs false false)) .e .e) .e) (.n (some (.box 35 (.v 35 z) false)) (.n none (.n none .e (.n (some (.box 153 (.v 153 st) false)) .e .e)) .e) .e)), [1, 0], 25, some []⟩
  | .b1 s m rs nl sh z st xs o2 q2 => ⟨[(2, .p 2 35 []), (3, .w 3 1 o2 q2), (6, .p 24 153 [])], (.n (some (.box 156 (.g 156 [.v 153 s, .o 1 1, .i .u64 m]) false)) (.n (some (.row 5 1 rs nl sh)) (.n (some (.row 5 1 xs false false)) .e .e) .e) (.n (some (.box 35 (.v 35 z) false)) (.n none (.n none .e (.n (some (.box 153 (.v 153 st) false)) .e .e)) .e) .e)), [1, 0], 25, some []⟩
  | .c0 s m rs off q sh z st xs => ⟨[(2, .p 2 35 []), (3, .o 3 1), (6, .p 24 153 [])], (.n (some (.box 156 (.g 156 [.v 153 s, .w 1 1 off q, .i .u64 m]) false)) (.n (some (.row 5 1 rs false sh)) (.n (some (.row 5 1 xs false false)) .e .e) .e) (.n (some (.box 35 (.v 35 z) false)) (.n none (.n none .e (.n (some (.box 153 (.v 153 st) false)) .e .e)) .e) .e)), [1, 0], 25, some []⟩
  | .c1 s m rs off q sh z st xs o2 q2 => ⟨[(2, .p 2 35 []), (3, .w 3 1 o2 q2), (6, .p 24 153 [])], (.n (some (.box 156 (.g 156 [.v 153 s, .w 1 1 off q, .i .u64 m]) false)) (.n (some (.row 5 1 rs false sh)) (.n (some (.row 5 1 xs false false)) .e .e) .e) (.n (some (.box 35 (.v 35 z) false)) (.n none (.n none .e (.n (some (.box 153 (.v 153 st) false)) .e .e)) .e) .e)), [1, 0], 25, some []⟩
noncomputable def ekHm (R : Type) (kx : Exit → Vm.St → Option R) : QHm → Option R
  | .b0 s m rs nl sh z st xs => kx (.exit 4) ⟨[(2, .p 2 35 []), (3, .o 3 1), (6, .p 24 153 [])], (.n (some (.box 156 (.g 156 [.v 153 s, .o 1 1, .i .u64 m]) false)) (.n (some (.row 5 1 rs nl sh)) (.n (some (.row 5 1 xs false false)) .e .e) .e) (.n (some (.box 35 (.v 35 z) false)) (.n none (.n none .e (.n (some (.box 153 (.v 153 st) false)) .e .e)) .e) .e)), [1, 0], 32, some []⟩
  | .b1 s m rs nl sh z st xs o2 q2 => kx (.exit 4) ⟨[(2, .p 2 35 []), (3, .w 3 1 o2 q2), (6, .p 24 153 [])], (.n (some (.box 156 (.g 156 [.v 153 s, .o 1 1, .i .u64 m]) false)) (.n (some (.row 5 1 rs nl sh)) (.n (some (.row 5 1 xs false false)) .e .e) .e) (.n (some (.box 35 (.v 35 z) false)) (.n none (.n none .e (.n (some (.box 153 (.v 153 st) false)) .e .e)) .e) .e)), [1, 0], 32, some []⟩
  | .c0 s m rs off q sh z st xs => kx (.exit 4) ⟨[(2, .p 2 35 []), (3, .o 3 1), (6, .p 24 153 [])], (.n (some (.box 156 (.g 156 [.v 153 s, .w 1 1 off q, .i .u64 m]) false)) (.n (some (.row 5 1 rs false sh)) (.n (some (.row 5 1 xs false false)) .e .e) .e) (.n (some (.box 35 (.v 35 z) false)) (.n none (.n none .e (.n (some (.box 153 (.v 153 st) false)) .e .e)) .e) .e)), [1, 0], 32, some []⟩
  | .c1 s m rs off q sh z st xs o2 q2 => kx (.exit 4) ⟨[(2, .p 2 35 []), (3, .w 3 1 o2 q2), (6, .p 24 153 [])], (.n (some (.box 156 (.g 156 [.v 153 s, .w 1 1 off q, .i .u64 m]) false)) (.n (some (.row 5 1 rs false sh)) (.n (some (.row 5 1 xs false false)) .e .e) .e) (.n (some (.box 35 (.v 35 z) false)) (.n none (.n none .e (.n (some (.box 153 (.v 153 st) false)) .e .e)) .e) .e)), [1, 0], 32, some []⟩
noncomputable def extHm_0 : Vm.St → Option PHm
  | ⟨[(2, .p 2 35 []), (3, .o 3 1), (6, .p 24 153 [])], (.n (some (.box 156 (.g 156 [.v 153 s, .o 1 1, .i .u64 m]) false)) (.n (some (.row 5 1 rs nl sh)) (.n (some (.row 5 1 xs false false)) .e .e) .e) (.n (some (.box 35 (.v 35 z) false)) (.n none (.n none .e (.n (some (.box 153 (.v 153 st) false)) .e .e)) .e) .e)), [1, 0], 25, some []⟩ => some (.b0 s m rs nl sh z st xs)
  | _ => none
theorem extHm_0_ok (τ : Vm.St) (x : PHm) (h : extHm_0 τ = some x) : τ = tmHm x := by
  unfold extHm_0 at h
  split at h <;> first | (cases h; rfl) | cases h
noncomputable def extHm_1 : Vm.St → Option PHm
  | ⟨[(2, .p 2 35 []), (3, .w 3 1 o2 q2), (6, .p 24 153 [])], (.n (some (.box 156 (.g 156 [.v 153 s, .o 1 1, .i .u64 m]) false)) (.n (some (.row 5 1 rs nl sh)) (.n (some (.row 5 1 xs false false)) .e .e) .e) (.n (some (.box 35 (.v 35 z) false)) (.n none (.n none .e (.n (some (.box 153 (.v 153 st) false)) .e .e)) .e) .e)), [1, 0], 25, some []⟩ => some (.b1 s m rs nl sh z st xs o2 q2)
  | _ => none
theorem extHm_1_ok (τ : Vm.St) (x : PHm) (h : extHm_1 τ = some x) : τ = tmHm x := by
  unfold extHm_1 at h
  split at h <;> first | (cases h; rfl) | cases h
noncomputable def extHm_2 : Vm.St → Option PHm
  | ⟨[(2, .p 2 35 []), (3, .o 3 1), (6, .p 24 153 [])], (.n (some (.box 156 (.g 156 [.v 153 s, .w 1 1 off q, .i .u64 m]) false)) (.n (some (.row 5 1 rs false sh)) (.n (some (.row 5 1 xs false false)) .e .e) .e) (.n (some (.box 35 (.v 35 z) false)) (.n none (.n none .e (.n (some (.box 153 (.v 153 st) false)) .e .e)) .e) .e)), [1, 0], 25, some []⟩ => some (.c0 s m rs off q sh z st xs)
  | _ => none
theorem extHm_2_ok (τ : Vm.St) (x : PHm) (h : extHm_2 τ = some x) : τ = tmHm x := by
  unfold extHm_2 at h
  split at h <;> first | (cases h; rfl) | cases h
noncomputable def extHm_3 : Vm.St → Option PHm
  | ⟨[(2, .p 2 35 []), (3, .w 3 1 o2 q2), (6, .p 24 153 [])], (.n (some (.box 156 (.g 156 [.v 153 s, .w 1 1 off q, .i .u64 m]) false)) (.n (some (.row 5 1 rs false sh)) (.n (some (.row 5 1 xs false false)) .e .e) .e) (.n (some (.box 35 (.v 35 z) false)) (.n none (.n none .e (.n (some (.box 153 (.v 153 st) false)) .e .e)) .e) .e)), [1, 0], 25, some []⟩ => some (.c1 s m rs off q sh z st xs o2 q2)
  | _ => none
theorem extHm_3_ok (τ : Vm.St) (x : PHm) (h : extHm_3 τ = some x) : τ = tmHm x := by
  unfold extHm_3 at h
  split at h <;> first | (cases h; rfl) | cases h
noncomputable def extHm (τ : Vm.St) : Option PHm := oc (extHm_0 τ) some (oc (extHm_1 τ) some (oc (extHm_2 τ) some (oc (extHm_3 τ) some (none))))
theorem extHm_ok (τ : Vm.St) (x : PHm) (h : extHm τ = some x) : τ = tmHm x := by
  unfold extHm at h
  cases h0 : extHm_0 τ with
  | some y => rw [h0] at h; cases h; exact extHm_0_ok τ _ h0
  | none =>
  rw [h0] at h; simp only [oc] at h
  cases h1 : extHm_1 τ with
  | some y => rw [h1] at h; cases h; exact extHm_1_ok τ _ h1
  | none =>
  rw [h1] at h; simp only [oc] at h
  cases h2 : extHm_2 τ with
  | some y => rw [h2] at h; cases h; exact extHm_2_ok τ _ h2
  | none =>
  rw [h2] at h; simp only [oc] at h
  cases h3 : extHm_3 τ with
  | some y => rw [h3] at h; cases h; exact extHm_3_ok τ _ h3
  | none =>
  rw [h3] at h; simp only [oc] at h
  cases h
theorem stepHm (R : Type) (of : Nat → Option Ob) (x : PHm) (K : Vm.St → Option R) (kx : Exit → Vm.St → Option R) : execC T K5 (fun _ => none) false FU (ntOf Tryz.prog 87) of R (lp (codeOf Tryz.prog 87) 2) (tmHm x) (sortN 2 [2, 3, 6] 32 K kx) = BHm R x (fun x' => K (tmHm x')) (ekHm R kx) := by
  cases x with
  | b0 _ _ _ _ _ _ _ _ => kernel_rfl
  | b1 _ _ _ _ _ _ _ _ _ _ => kernel_rfl
  | c0 _ _ _ _ _ _ _ _ _ => kernel_rfl
  | c1 _ _ _ _ _ _ _ _ _ _ _ => kernel_rfl
noncomputable def HHm : LS := loopH T K5 (fun _ => none) (ntOf Tryz.prog 87) (lp (codeOf Tryz.prog 87) 2) 2 [2, 3, 6] 32 extHm BHm ekHm
theorem HHm_ok : LoopTk Tryz.prog T (ntOf Tryz.prog 87) 2 (lp (codeOf Tryz.prog 87) 2) HHm :=
  loopH_ok follows T_ok hK5 hS5 loNat_none (loopsOK_none _) tmHm extHm_ok stepHm
noncomputable def LoHSm : Nat → LC := atN 2 [(3, HHp), (12, HHm)]
theorem LoHSm_ok : LoopsC Tryz.prog T 87 LoHSm := loopsC_at 2 (List.forall_mem_cons.2 ⟨HHp_ok.1, List.forall_mem_cons.2 ⟨HHm_ok.1, fun _ h => by cases h⟩⟩) 4 (by kernel_rfl) ⟨⟨⟨⟨trivial, loI (s0 := HHp) (by kernel_rfl) HHp_ok⟩, loN (by kernel_rfl)⟩, loI (s0 := HHm) (by kernel_rfl) HHm_ok⟩, loN (by kernel_rfl)⟩
noncomputable def tab6 : List (Nat × SymC) := (86, trS (runPC Tryz.prog T K5 LoHAd false FU 86)) :: tab5
theorem tab6_ok : TabOK Tryz.prog T tab6 := TabOK.runP follows T_ok tab5_ok LoHAd_ok
noncomputable def tab7 : List (Nat × SymC) := (87, trS (runPC Tryz.prog T K5 LoHSm false FU 87)) :: tab6
theorem tab7_ok : TabOK Tryz.prog T tab7 :=
  tab6_ok.cons (trS_nat (runPC_nat hK5 LoHSm_ok.nat)) (trS_ok (runPC_nat hK5 LoHSm_ok.nat) (runPC_ok follows T_ok hK5 hS5 LoHSm_ok.nat LoHSm_ok.ok).at_)
noncomputable def K7 : KC := runAC Tryz.prog T tab7 false FU 4
theorem hK7 : K7.nat := runAC_nat tab7_ok 4
theorem hS7 : KOK Tryz.prog T K7.dir := runAC_ok follows T_ok tab7_ok 4
theorem run_ds (l : List V) : runFC Tryz.prog T K7 (fun _ _ => none) false FU 72 (List Rs) (mkAs T [117] [.l l]) (fun _ => none) 0 (fun out => resC T true [.d 35] out) = dsG l (fun x => some [.d 35 x]) := by kernel_rfl
noncomputable def tab8 : List (Nat × SymC) := (72, pureS T true [117] (gF dsg (dsr 35))) :: tab7
theorem tab8_ok : TabOK Tryz.prog T tab8 := by
  refine pure_conG (sh := true) (rk := [.d 35]) (d := 4) (fu := FU) (Lo := (fun _ _ => none)) (ds := [.slice (.slice (.int .u8))]) follows T_ok tab7_ok (by kernel_rfl) loopsC_none 40 (by kernel_rfl) (fun xs hd hg => ?_)
  obtain ⟨a, rfl, ha⟩ := hasL1 hd
  obtain ⟨l, rfl⟩ := dsg_l hg
  exact (run_ds l).trans (ds_run ha hg _)
noncomputable def K8 : KC := runAC Tryz.prog T tab8 false FU 4
theorem hK8 : K8.nat := runAC_nat tab8_ok 4
theorem hS8 : KOK Tryz.prog T K8.dir := runAC_ok follows T_ok tab8_ok 4
theorem run_dt2 (l : List V) : runFC Tryz.prog T K8 (fun _ _ => none) false FU 57 (List Rs) (mkAs T [117] [.l l]) (fun _ => none) 0 (fun out => resC T true [.d 35] out) = bif dsg [.l l] then some [.d 35 (shaB (shaN (catB l)))] else none := by kernel_rfl
end Go.Proofs.YteoeonfajlnggaaGreat

namespace Go.Proofs.YteoeonfajlnggaaGreat
open Go.Vm
set_option maxRecDepth 100000
set_option linter.unusedVariables false
set_option linter.constructorNameAsVariable false
noncomputable def tab9 : List (Nat × SymC) := (57, pureS T true [117] (gF dsg (dtr 35))) :: tab8
theorem tab9_ok : TabOK Tryz.prog T tab9 := by
  refine pure_conG (sh := true) (rk := [.d 35]) (d := 4) (fu := FU) (Lo := (fun _ _ => none)) (ds := [.slice (.slice (.int .u8))]) follows T_ok tab8_ok (by kernel_rfl) loopsC_none 40 (by kernel_rfl) (fun xs hd hg => ?_)
  obtain ⟨a, rfl, ha⟩ := hasL1 hd
  obtain ⟨l, rfl⟩ := dsg_l hg
  refine (run_dt2 l).trans ?_
  rw [hg]; rfl
noncomputable def K9 : KC := runAC Tryz.prog T tab9 false FU 4
theorem hK9 : K9.nat := runAC_nat tab9_ok 4
theorem hS9 : KOK Tryz.prog T K9.dir := runAC_ok follows T_ok tab9_ok 4
theorem run_dw (l : List V) : runFC Tryz.prog T K9 (fun _ _ => none) false FU 35 (List Rs) (mkAs T [39] [.l l]) (fun _ => none) 0 (fun out => resC T true [.d 35] out) = bif Nat.ble l.length 1000000000 then some [.d 35 (shaV (shaV (.l l)))] else none := by kernel_rfl
noncomputable def tab10 : List (Nat × SymC) := (35, pureS T true [39] (gF dwg (dwr 35))) :: tab9
theorem tab10_ok : TabOK Tryz.prog T tab10 := by
  refine pure_conG (sh := true) (rk := [.d 35]) (d := 4) (fu := FU) (Lo := (fun _ _ => none)) (ds := [.slice (.int .u8)]) follows T_ok tab9_ok (by kernel_rfl) loopsC_none 40 (by kernel_rfl) (fun xs hd hg => ?_)
  obtain ⟨a, rfl, ha⟩ := hasL1 hd
  obtain ⟨l, rfl, hl⟩ := dwg_l hg
  refine (run_dw l).trans ?_
  rw [hl]
  show some [Rs.d _ (shaV (shaV (.l l)))] = some [Rs.d _ (shaB (shaN (bytesN (.l l))))]
  rw [show shaV (shaV (.l l)) = shaB (shaN (bytesN (.l l))) by unfold shaV shaB; rw [bytesN_eq (x := .l _) rfl]]
noncomputable def K10 : KC := runAC Tryz.prog T tab10 false FU 4
theorem hK10 : K10.nat := runAC_nat tab10_ok 4
theorem hS10 : KOK Tryz.prog T K10.dir := runAC_ok follows T_ok tab10_ok 4
end Go.Proofs.YteoeonfajlnggaaGreat

namespace Go.Proofs.YteoeonfajlnggaaGreat
open Go.Vm
set_option maxRecDepth 100000
set_option linter.unusedVariables false
set_option linter.constructorNameAsVariable false
theorem run_wf8 (bs : List V) (n : Int) : runFC Tryz.prog T K10 (fun _ _ => none) false FU 67 (List Rs) (mkAs T [39, 98, 3] [.l bs, .i n, .i 8]) (fun _ => none) 0 (fun out => resC T true [.r 5] out) = (lim (0 + bs.length) <| pFix 8 n bs (fun xs => some [.r 5 xs false])) := by kernel_rfl
theorem run_wf8N (n : Int) : runFC Tryz.prog T K10 (fun _ _ => none) false FU 67 (List Rs) (mkAs T [39, 98, 3] [.n, .i n, .i 8]) (fun _ => none) 0 (fun out => resC T true [.r 5] out) = some [.r 5 (leV 8 n) false] := by kernel_rfl
theorem run_wf4 (bs : List V) (n : Int) : runFC Tryz.prog T K10 (fun _ _ => none) false FU 67 (List Rs) (mkAs T [39, 98, 3] [.l bs, .i n, .i 4]) (fun _ => none) 0 (fun out => resC T true [.r 5] out) = (lim (0 + bs.length) <| pFix 4 n bs (fun xs => some [.r 5 xs false])) := by kernel_rfl
theorem run_wf4N (n : Int) : runFC Tryz.prog T K10 (fun _ _ => none) false FU 67 (List Rs) (mkAs T [39, 98, 3] [.n, .i n, .i 4]) (fun _ => none) 0 (fun out => resC T true [.r 5] out) = some [.r 5 (leV 4 n) false] := by kernel_rfl
noncomputable def tab11 : List (Nat × SymC) := (67, pureS T true [39, 98, 3] (gF wFixg (wFixr 5))) :: tab10
theorem tab11_ok : TabOK Tryz.prog T tab11 := by
  refine pure_conG (sh := true) (rk := [.r 5]) (d := 4) (fu := FU) (Lo := (fun _ _ => none)) (ds := [.slice (.int .u8), .int .u64, .int .i64]) follows T_ok tab10_ok (by kernel_rfl) loopsC_none 40 (by kernel_rfl) (fun xs hd hg => ?_)
  obtain ⟨a, b, c, rfl, ha, hb, hc⟩ := hasL3 hd
  obtain ⟨n, rfl, _⟩ := hb
  obtain ⟨s, rfl, _⟩ := hc
  obtain ⟨hs, hg⟩ := wFix_at hg
  rcases hs with rfl | rfl
  ·
    · rcases bytes_v ha with rfl | ⟨ys, rfl⟩
      · rw [wFixr_8]; exact run_wf8N n
      · rw [wFixr_8]
        have hl : ys.length ≤ 268435456 := shb_le hg
        refine (run_wf8 ys n).trans ?_
        rw [lim_in (by omega), pFix_law _ _ _ _ (by show ys.length + 8 ≤ 1073741824; omega)]; rfl
  ·
    · rcases bytes_v ha with rfl | ⟨ys, rfl⟩
      · rw [wFixr_4]; exact run_wf4N n
      · rw [wFixr_4]
        have hl : ys.length ≤ 268435456 := shb_le hg
        refine (run_wf4 ys n).trans ?_
        rw [lim_in (by omega), pFix_law _ _ _ _ (by show ys.length + 4 ≤ 1073741824; omega)]; rfl
noncomputable def K11 : KC := runAC Tryz.prog T tab11 false FU 4
theorem hK11 : K11.nat := runAC_nat tab11_ok 4
theorem hS11 : KOK Tryz.prog T K11.dir := runAC_ok follows T_ok tab11_ok 4
theorem run_wt (bs xs : List V) : runFC Tryz.prog T K11 (fun _ _ => none) false FU 74 (List Rs) (mkAs T [39, 117] [.l bs, .l [.l xs]]) (fun _ => none) 0 (fun out => resC T true [.r 5] out) = (lim (0 + bs.length) <| txt1 bs xs (fun ys => some [.r 5 ys false])) := by kernel_rfl
theorem run_wt0 (bs : List V) : runFC Tryz.prog T K11 (fun _ _ => none) false FU 74 (List Rs) (mkAs T [39, 117] [.l bs, .l [.n]]) (fun _ => none) 0 (fun out => resC T true [.r 5] out) = (lim (0 + bs.length) <| txt1 bs [] (fun ys => some [.r 5 ys false])) := by kernel_rfl
theorem run_wtN (xs : List V) : runFC Tryz.prog T K11 (fun _ _ => none) false FU 74 (List Rs) (mkAs T [39, 117] [.n, .l [.l xs]]) (fun _ => none) 0 (fun out => resC T true [.r 5] out) = (txt1 [] xs (fun ys => some [.r 5 ys false])) := by kernel_rfl
theorem run_wtN0  : runFC Tryz.prog T K11 (fun _ _ => none) false FU 74 (List Rs) (mkAs T [39, 117] [.n, .l [.n]]) (fun _ => none) 0 (fun out => resC T true [.r 5] out) = (txt1 [] [] (fun ys => some [.r 5 ys false])) := by kernel_rfl
noncomputable def tab12 : List (Nat × SymC) := (74, pureS T true [39, 117] (gF wTxtg (wTxtr 5))) :: tab11
theorem tab12_ok : TabOK Tryz.prog T tab12 := by
  refine pure_conG (sh := true) (rk := [.r 5]) (d := 4) (fu := FU) (Lo := (fun _ _ => none)) (ds := [.slice (.int .u8), .slice (.slice (.int .u8))]) follows T_ok tab11_ok (by kernel_rfl) loopsC_none 40 (by kernel_rfl) (fun xs hd hg => ?_)
  obtain ⟨a, b, rfl, ha, hb⟩ := hasL2 hd
  rcases hb with rfl | ⟨l, rfl, hl⟩
  · exact absurd (show false = true from hg) (by decide)
  match l, hl, hg with
  | [x], hl, hg =>
    have hg := (Bool.and_eq_true _ _).mp (show (shb a && shb x) = true from hg)
    rcases bytes_v ha with rfl | ⟨ys, rfl⟩ <;> rcases bytes_v (hl x (List.mem_singleton.2 rfl)) with rfl | ⟨zs, rfl⟩
    · exact (run_wtN0).trans (txt1_law (by simp) (by simp))
    ·
      have hl2 : zs.length ≤ 268435456 := shb_le hg.2
      refine (run_wtN zs).trans ?_
      rw [txt1_law (by simp) (by omega)]; rfl
    ·
      have hl1 : ys.length ≤ 268435456 := shb_le hg.1
      refine (run_wt0 ys ).trans ?_
      rw [lim_in (by omega), txt1_law (by omega) (by simp)]; rfl
    ·
      have hl1 : ys.length ≤ 268435456 := shb_le hg.1
      have hl2 : zs.length ≤ 268435456 := shb_le hg.2
      refine (run_wt ys zs).trans ?_
      rw [lim_in (by omega), txt1_law (by omega) (by omega)]; rfl
noncomputable def K12 : KC := runAC Tryz.prog T tab12 false FU 4
theorem hK12 : K12.nat := runAC_nat tab12_ok 4
theorem hS12 : KOK Tryz.prog T K12.dir := runAC_ok follows T_ok tab12_ok 4
theorem run_wc (bs : List V) (n : Int) : runFC Tryz.prog T K12 (fun _ _ => none) false FU 73 (List Rs) (mkAs T [39, 98] [.l bs, .i n]) (fun _ => none) 0 (fun out => resC T true [.r 5] out) = cntE n bs (fun ys => some [.r 5 ys false]) := by kernel_rfl
theorem run_wcN (n : Int) : runFC Tryz.prog T K12 (fun _ _ => none) false FU 73 (List Rs) (mkAs T [39, 98] [.n, .i n]) (fun _ => none) 0 (fun out => resC T true [.r 5] out) = cntC n [] (fun ys => some [.r 5 ys false]) := by kernel_rfl
noncomputable def tab13 : List (Nat × SymC) := (73, pureS T true [39, 98] (gF wCntg (wCntr 5))) :: tab12
theorem tab13_ok : TabOK Tryz.prog T tab13 := by
  refine pure_conG (sh := true) (rk := [.r 5]) (d := 4) (fu := FU) (Lo := (fun _ _ => none)) (ds := [.slice (.int .u8), .int .u64]) follows T_ok tab12_ok (by kernel_rfl) loopsC_none 40 (by kernel_rfl) (fun xs hd hg => ?_)
  obtain ⟨a, b, rfl, ha, hb⟩ := hasL2 hd
  obtain ⟨n, rfl, _⟩ := hb
  rcases bytes_v ha with rfl | ⟨ys, rfl⟩
  · refine (run_wcN n).trans ?_
    rw [cntC_law (by simp)]; rfl
  · have hl : ys.length ≤ 268435456 := shb_le hg
    refine (run_wc ys n).trans ?_
    rw [cntE_law (by omega)]; rfl
noncomputable def K13 : KC := runAC Tryz.prog T tab13 false FU 4
theorem hK13 : K13.nat := runAC_nat tab13_ok 4
theorem hS13 : KOK Tryz.prog T K13.dir := runAC_ok follows T_ok tab13_ok 4
theorem run_wr (hs : List V) (n : Int) : runFC Tryz.prog T K13 (fun _ _ => none) false FU 64 (List Rs) (mkAs T [38] [.l [.l hs, .i n]]) (fun _ => none) 0 (fun out => resC T true [.r 5] out) = bif shb (.l ((hs.drop 0).take 32)) then some [.r 5 ((hs.drop 0).take 32 ++ leV 4 (WU n)) false] else none := by kernel_rfl
noncomputable def tab14 : List (Nat × SymC) := (64, pureS T true [38] (gF wRefg (wRefr 5))) :: tab13
theorem tab14_ok : TabOK Tryz.prog T tab14 := by
  refine pure_conG (sh := true) (rk := [.r 5]) (d := 4) (fu := FU) (Lo := (fun _ _ => none)) (ds := [.struct [.arr 32 (.int .u8), .int .u32]]) follows T_ok tab13_ok (by kernel_rfl) loopsC_none 40 (by kernel_rfl) (fun xs hd hg => ?_)
  obtain ⟨a, rfl, ha⟩ := hasL1 hd
  obtain ⟨hs, n, rfl, hl, h1, h2⟩ := ref_v ha
  obtain ⟨m, rfl⟩ := Int.eq_ofNat_of_zero_le h1
  refine (run_wr hs _).trans ?_
  rw [show (hs.drop 0).take 32 = hs from List.take_of_length_le (by simp; omega), wu64_lt (by omega), show shb (.l hs) = true from Nat.ble_eq_true_of_le (by show hs.length ≤ 268435456; omega)]; rfl
noncomputable def K14 : KC := runAC Tryz.prog T tab14 false FU 4
theorem hK14 : K14.nat := runAC_nat tab14_ok 4
theorem hS14 : KOK Tryz.prog T K14.dir := runAC_ok follows T_ok tab14_ok 4
theorem run_dc (n : Int) : runFC Tryz.prog T K14 (fun _ _ => none) false FU 50 (List Rs) (mkAs T [98] [.i n]) (fun _ => none) 0 (fun out => resC T true [.r 5] out) = cntD n (fun ys => some [.r 5 ys false]) := by kernel_rfl
noncomputable def tab15 : List (Nat × SymC) := (50, pureS T true [98] (gF dCntg (dCntr 5))) :: tab14
theorem tab15_ok : TabOK Tryz.prog T tab15 := by
  refine pure_conG (sh := true) (rk := [.r 5]) (d := 4) (fu := FU) (Lo := (fun _ _ => none)) (ds := [.int .u64]) follows T_ok tab14_ok (by kernel_rfl) loopsC_none 40 (by kernel_rfl) (fun xs hd hg => ?_)
  obtain ⟨a, rfl, ha⟩ := hasL1 hd
  obtain ⟨n, rfl, h1, h2⟩ := ha
  simp only [lo, hi] at h1 h2
  refine (run_dc n).trans ?_
  rw [cntD_law h1 (by omega)]; rfl
noncomputable def K15 : KC := runAC Tryz.prog T tab15 false FU 4
theorem hK15 : K15.nat := runAC_nat tab15_ok 4
theorem hS15 : KOK Tryz.prog T K15.dir := runAC_ok follows T_ok tab15_ok 4
theorem run_dt (xs : List V) : runFC Tryz.prog T K15 (fun _ _ => none) false FU 52 (List Rs) (mkAs T [39] [.l xs]) (fun _ => none) 0 (fun out => resC T true [.r 5] out) = (ln xs.length <| lim ((cntL (WU (xs.length : Nat))).length + xs.length) <| some [.r 5 (cntL (WU (xs.length : Nat)) ++ xs) false]) := by kernel_rfl
theorem run_dtN  : runFC Tryz.prog T K15 (fun _ _ => none) false FU 52 (List Rs) (mkAs T [39] [.n]) (fun _ => none) 0 (fun out => resC T true [.r 5] out) = some [.r 5 (txtL []) false] := by kernel_rfl
noncomputable def tab16 : List (Nat × SymC) := (52, pureS T true [39] (gF dTxtg (dTxtr 5))) :: tab15
theorem tab16_ok : TabOK Tryz.prog T tab16 := by
  refine pure_conG (sh := true) (rk := [.r 5]) (d := 4) (fu := FU) (Lo := (fun _ _ => none)) (ds := [.slice (.int .u8)]) follows T_ok tab15_ok (by kernel_rfl) loopsC_none 40 (by kernel_rfl) (fun xs hd hg => ?_)
  obtain ⟨a, rfl, ha⟩ := hasL1 hd
  rcases bytes_v ha with rfl | ⟨ys, rfl⟩
  · exact run_dtN
  · have hl : ys.length ≤ 268435456 := shb_le hg
    have hc := cntL_len (ys.length : Nat)
    refine (run_dt ys).trans ?_
    rw [ln_in (by omega), wu64_lt (by omega), lim_in (by omega)]; rfl
noncomputable def K16 : KC := runAC Tryz.prog T tab16 false FU 4
theorem hK16 : K16.nat := runAC_nat tab16_ok 4
theorem hS16 : KOK Tryz.prog T K16.dir := runAC_ok follows T_ok tab16_ok 4
theorem run_df8 (n : Int) : runFC Tryz.prog T K16 (fun _ _ => none) false FU 49 (List Rs) (mkAs T [98, 3] [.i n, .i 8]) (fun _ => none) 0 (fun out => resC T true [.r 5] out) = some [.r 5 (leD 8 n) false] := by kernel_rfl
theorem run_df4 (n : Int) : runFC Tryz.prog T K16 (fun _ _ => none) false FU 49 (List Rs) (mkAs T [98, 3] [.i n, .i 4]) (fun _ => none) 0 (fun out => resC T true [.r 5] out) = some [.r 5 (leD 4 n) false] := by kernel_rfl
noncomputable def tab17 : List (Nat × SymC) := (49, pureS T true [98, 3] (gF dFixg (dFixr 5))) :: tab16
theorem tab17_ok : TabOK Tryz.prog T tab17 := by
  refine pure_conG (sh := true) (rk := [.r 5]) (d := 4) (fu := FU) (Lo := (fun _ _ => none)) (ds := [.int .u64, .int .i64]) follows T_ok tab16_ok (by kernel_rfl) loopsC_none 40 (by kernel_rfl) (fun xs hd hg => ?_)
  obtain ⟨a, b, rfl, ha, hb⟩ := hasL2 hd
  obtain ⟨n, rfl, h1, h2⟩ := ha
  obtain ⟨s, rfl, _⟩ := hb
  simp only [lo, hi] at h1 h2
  rcases dFix_at hg with rfl | rfl
  · rw [dFixr_8]
    refine (run_df8 n).trans ?_
    rw [leD_leV 8 h1 (by omega)]
  · rw [dFixr_4]
    refine (run_df4 n).trans ?_
    rw [leD_leV 4 h1 (by omega)]
noncomputable def K17 : KC := runAC Tryz.prog T tab17 false FU 4
theorem hK17 : K17.nat := runAC_nat tab17_ok 4
theorem hS17 : KOK Tryz.prog T K17.dir := runAC_ok follows T_ok tab17_ok 4
theorem run_dr (hs : List V) (n : Int) : runFC Tryz.prog T K17 (fun _ _ => none) false FU 51 (List Rs) (mkAs T [38] [.l [.l hs, .i n]]) (fun _ => none) 0 (fun out => resC T true [.r 5] out) = (lim (0 + ((hs.drop 0).take 32).length) <| lim (((hs.drop 0).take 32).length + 4) <| some [.r 5 ((hs.drop 0).take 32 ++ leV 4 (WU n)) false]) := by kernel_rfl
noncomputable def tab18 : List (Nat × SymC) := (51, pureS T true [38] (gF wRefg (wRefr 5))) :: tab17
theorem tab18_ok : TabOK Tryz.prog T tab18 := by
  refine pure_conG (sh := true) (rk := [.r 5]) (d := 4) (fu := FU) (Lo := (fun _ _ => none)) (ds := [.struct [.arr 32 (.int .u8), .int .u32]]) follows T_ok tab17_ok (by kernel_rfl) loopsC_none 40 (by kernel_rfl) (fun xs hd hg => ?_)
  obtain ⟨a, rfl, ha⟩ := hasL1 hd
  obtain ⟨hs, n, rfl, hl, h1, h2⟩ := ref_v ha
  obtain ⟨m, rfl⟩ := Int.eq_ofNat_of_zero_le h1
  refine (run_dr hs _).trans ?_
  rw [show (hs.drop 0).take 32 = hs from List.take_of_length_le (by simp; omega), wu64_lt (by omega), lim_in (by omega), lim_in (by omega)]; rfl
noncomputable def K18 : KC := runAC Tryz.prog T tab18 false FU 4
theorem hK18 : K18.nat := runAC_nat tab18_ok 4
theorem hS18 : KOK Tryz.prog T K18.dir := runAC_ok follows T_ok tab18_ok 4
end Go.Proofs.YteoeonfajlnggaaGreat

namespace Go.Proofs.YteoeonfajlnggaaGreat
open Go.Vm
set_option maxRecDepth 100000
set_option linter.unusedVariables false
set_option linter.constructorNameAsVariable false
noncomputable def tmTi : PTi → Vm.St
  | .m t l bs n i => ⟨[(1, .p 0 27 []), (3, .o 1 1), (18, .v 24 l), (19, .i .i64 n), (20, .i .i64 i)], (.n (some (.box 27 (.v 27 t) false)) (.n (some (.row 5 1 bs false false)) .e .e) .e), [], 2, some []⟩
noncomputable def ekTi (R : Type) (kx : Exit → Vm.St → Option R) : QTi → Option R
  | .o t l bs n i => kx (.exit 0) ⟨[(1, .p 0 27 []), (3, .o 1 1), (18, .v 24 l), (19, .i .i64 n), (20, .i .i64 i)], (.n (some (.box 27 (.v 27 t) false)) (.n (some (.row 5 1 bs false false)) .e .e) .e), [], 64, some []⟩
noncomputable def extTi : Vm.St → Option PTi
  | ⟨[(1, .p 0 27 []), (3, .o 1 1), (18, .v 24 l), (19, .i .i64 n), (20, .i .i64 i)], (.n (some (.box 27 (.v 27 t) false)) (.n (some (.row 5 1 bs false false)) .e .e) .e), [], 2, some []⟩ => some (.m t l bs n i)
  | _ => none
theorem extTi_ok (τ : Vm.St) (x : PTi) (h : extTi τ = some x) : τ = tmTi x := by
  unfold extTi at h
  split at h <;> first | (cases h; rfl) | cases h
theorem stepTi (R : Type) (of : Nat → Option Ob) (x : PTi) (K : Vm.St → Option R) (kx : Exit → Vm.St → Option R) : execC T K18 (fun _ => none) false FU (ntOf Tryz.prog 58) of R (lp (codeOf Tryz.prog 58) 0) (tmTi x) (sortN 0 [999999, 1, 3, 18, 19, 20] 64 K kx) = BTi R x (fun x' => K (tmTi x')) (ekTi R kx) := by
  cases x with
  | m _ _ _ _ _ => kernel_rfl
noncomputable def HTi : LS := loopH T K18 (fun _ => none) (ntOf Tryz.prog 58) (lp (codeOf Tryz.prog 58) 0) 0 [999999, 1, 3, 18, 19, 20] 64 extTi BTi ekTi
theorem HTi_ok : LoopTk Tryz.prog T (ntOf Tryz.prog 58) 0 (lp (codeOf Tryz.prog 58) 0) HTi :=
  loopH_ok follows T_ok hK18 hS18 loNat_none (loopsOK_none _) tmTi extTi_ok stepTi
noncomputable def tmTo : PTo → Vm.St
  | .m t l bs n i => ⟨[(1, .p 0 27 []), (3, .o 1 1), (46, .v 25 l), (47, .i .i64 n), (48, .i .i64 i)], (.n (some (.box 27 (.v 27 t) false)) (.n (some (.row 5 1 bs false false)) .e .e) .e), [], 2, some []⟩
noncomputable def ekTo (R : Type) (kx : Exit → Vm.St → Option R) : QTo → Option R
  | .o t l bs n i => kx (.exit 2) ⟨[(1, .p 0 27 []), (3, .o 1 1), (46, .v 25 l), (47, .i .i64 n), (48, .i .i64 i)], (.n (some (.box 27 (.v 27 t) false)) (.n (some (.row 5 1 bs false false)) .e .e) .e), [], 128, some []⟩
noncomputable def extTo : Vm.St → Option PTo
  | ⟨[(1, .p 0 27 []), (3, .o 1 1), (46, .v 25 l), (47, .i .i64 n), (48, .i .i64 i)], (.n (some (.box 27 (.v 27 t) false)) (.n (some (.row 5 1 bs false false)) .e .e) .e), [], 2, some []⟩ => some (.m t l bs n i)
  | _ => none
theorem extTo_ok (τ : Vm.St) (x : PTo) (h : extTo τ = some x) : τ = tmTo x := by
  unfold extTo at h
  split at h <;> first | (cases h; rfl) | cases h
theorem stepTo (R : Type) (of : Nat → Option Ob) (x : PTo) (K : Vm.St → Option R) (kx : Exit → Vm.St → Option R) : execC T K18 (fun _ => none) false FU (ntOf Tryz.prog 58) of R (lp (codeOf Tryz.prog 58) 1) (tmTo x) (sortN 0 [999999, 1, 3, 46, 47, 48] 128 K kx) = BTo R x (fun x' => K (tmTo x')) (ekTo R kx) := by
  cases x with
  | m _ _ _ _ _ => kernel_rfl
noncomputable def HTo : LS := loopH T K18 (fun _ => none) (ntOf Tryz.prog 58) (lp (codeOf Tryz.prog 58) 1) 0 [999999, 1, 3, 46, 47, 48] 128 extTo BTo ekTo
theorem HTo_ok : LoopTk Tryz.prog T (ntOf Tryz.prog 58) 0 (lp (codeOf Tryz.prog 58) 1) HTo :=
  loopH_ok follows T_ok hK18 hS18 loNat_none (loopsOK_none _) tmTo extTo_ok stepTo
noncomputable def LoBT : Nat → LC := atN 0 [(3, HTi), (10, HTo)]
theorem LoBT_ok : LoopsC Tryz.prog T 58 LoBT := loopsC_at 0 (List.forall_mem_cons.2 ⟨HTi_ok.1, List.forall_mem_cons.2 ⟨HTo_ok.1, fun _ h => by cases h⟩⟩) 2 (by kernel_rfl) ⟨⟨trivial, loI (s0 := HTi) (by kernel_rfl) HTi_ok⟩, loI (s0 := HTo) (by kernel_rfl) HTo_ok⟩
theorem run_txT (v u : Int) (a b : V) : runFC Tryz.prog T K18 LoBT false FU 58 (List Rs) (mkAs T [27] [.l [.i v, a, b, .i u]]) (fun _ => none) 0 (fun out => resC T true [.r 5] out) = txW v u a b (fun xs => some [.r 5 xs false]) := by kernel_rfl
noncomputable def tab19 : List (Nat × SymC) := (58, pureS T true [27] (gF txg (txr 5))) :: tab18
theorem tab19_ok : TabOK Tryz.prog T tab19 := by
  refine pure_conG (sh := true) (rk := [.r 5]) (d := 4) (fu := FU) (Lo := LoBT) (ds := [DTx]) follows T_ok tab18_ok (by kernel_rfl) LoBT_ok 40 (by kernel_rfl) (fun xs hd hg => ?_)
  obtain ⟨a, rfl, ha⟩ := hasL1 hd
  obtain ⟨v, x, y, u, rfl, _, hx, hy, _⟩ := tx_v ha
  exact (run_txT v u x y).trans (txB_law _ hx hy hg).1
noncomputable def K19 : KC := runAC Tryz.prog T tab19 false FU 4
theorem hK19 : K19.nat := runAC_nat tab19_ok 4
theorem hS19 : KOK Tryz.prog T K19.dir := runAC_ok follows T_ok tab19_ok 4
noncomputable def tmXi : PXi → Vm.St
  | .m t l bs n i => ⟨[(1, .p 0 27 []), (3, .o 1 1), (20, .v 24 l), (21, .i .i64 n), (22, .i .i64 i)], (.n (some (.box 27 (.v 27 t) false)) (.n (some (.row 5 1 bs false false)) .e .e) .e), [], 2, some []⟩
noncomputable def ekXi (R : Type) (kx : Exit → Vm.St → Option R) : QXi → Option R
  | .o t l bs n i => kx (.exit 0) ⟨[(1, .p 0 27 []), (3, .o 1 1), (20, .v 24 l), (21, .i .i64 n), (22, .i .i64 i)], (.n (some (.box 27 (.v 27 t) false)) (.n (some (.row 5 1 bs false false)) .e .e) .e), [], 64, some []⟩
noncomputable def extXi : Vm.St → Option PXi
  | ⟨[(1, .p 0 27 []), (3, .o 1 1), (20, .v 24 l), (21, .i .i64 n), (22, .i .i64 i)], (.n (some (.box 27 (.v 27 t) false)) (.n (some (.row 5 1 bs false false)) .e .e) .e), [], 2, some []⟩ => some (.m t l bs n i)
  | _ => none
theorem extXi_ok (τ : Vm.St) (x : PXi) (h : extXi τ = some x) : τ = tmXi x := by
  unfold extXi at h
  split at h <;> first | (cases h; rfl) | cases h
theorem stepXi (R : Type) (of : Nat → Option Ob) (x : PXi) (K : Vm.St → Option R) (kx : Exit → Vm.St → Option R) : execC T K19 (fun _ => none) false FU (ntOf Tryz.prog 31) of R (lp (codeOf Tryz.prog 31) 0) (tmXi x) (sortN 0 [999999, 1, 3, 20, 21, 22] 64 K kx) = BXi R x (fun x' => K (tmXi x')) (ekXi R kx) := by
  cases x with
  | m _ _ _ _ _ => kernel_rfl
noncomputable def HXi : LS := loopH T K19 (fun _ => none) (ntOf Tryz.prog 31) (lp (codeOf Tryz.prog 31) 0) 0 [999999, 1, 3, 20, 21, 22] 64 extXi BXi ekXi
theorem HXi_ok : LoopTk Tryz.prog T (ntOf Tryz.prog 31) 0 (lp (codeOf Tryz.prog 31) 0) HXi :=
  loopH_ok follows T_ok hK19 hS19 loNat_none (loopsOK_none _) tmXi extXi_ok stepXi
noncomputable def tmXo : PXo → Vm.St
  | .m t l bs n i => ⟨[(1, .p 0 27 []), (3, .o 1 1), (51, .v 25 l), (52, .i .i64 n), (53, .i .i64 i)], (.n (some (.box 27 (.v 27 t) false)) (.n (some (.row 5 1 bs false false)) .e .e) .e), [], 2, some []⟩
noncomputable def ekXo (R : Type) (kx : Exit → Vm.St → Option R) : QXo → Option R
  | .o t l bs n i => kx (.exit 2) ⟨[(1, .p 0 27 []), (3, .o 1 1), (51, .v 25 l), (52, .i .i64 n), (53, .i .i64 i)], (.n (some (.box 27 (.v 27 t) false)) (.n (some (.row 5 1 bs false false)) .e .e) .e), [], 128, some []⟩
noncomputable def extXo : Vm.St → Option PXo
  | ⟨[(1, .p 0 27 []), (3, .o 1 1), (51, .v 25 l), (52, .i .i64 n), (53, .i .i64 i)], (.n (some (.box 27 (.v 27 t) false)) (.n (some (.row 5 1 bs false false)) .e .e) .e), [], 2, some []⟩ => some (.m t l bs n i)
  | _ => none
theorem extXo_ok (τ : Vm.St) (x : PXo) (h : extXo τ = some x) : τ = tmXo x := by
  unfold extXo at h
  split at h <;> first | (cases h; rfl) | cases h
theorem stepXo (R : Type) (of : Nat → Option Ob) (x : PXo) (K : Vm.St → Option R) (kx : Exit → Vm.St → Option R) : execC T K19 (fun _ => none) false FU (ntOf Tryz.prog 31) of R (lp (codeOf Tryz.prog 31) 1) (tmXo x) (sortN 0 [999999, 1, 3, 51, 52, 53] 128 K kx) = BXo R x (fun x' => K (tmXo x')) (ekXo R kx) := by
  cases x with
  | m _ _ _ _ _ => kernel_rfl
noncomputable def HXo : LS := loopH T K19 (fun _ => none) (ntOf Tryz.prog 31) (lp (codeOf Tryz.prog 31) 1) 0 [999999, 1, 3, 51, 52, 53] 128 extXo BXo ekXo
theorem HXo_ok : LoopTk Tryz.prog T (ntOf Tryz.prog 31) 0 (lp (codeOf Tryz.prog 31) 1) HXo :=
  loopH_ok follows T_ok hK19 hS19 loNat_none (loopsOK_none _) tmXo extXo_ok stepXo
noncomputable def LoBX : Nat → LC := atN 0 [(4, HXi), (12, HXo)]
theorem LoBX_ok : LoopsC Tryz.prog T 31 LoBX := loopsC_at 0 (List.forall_mem_cons.2 ⟨HXi_ok.1, List.forall_mem_cons.2 ⟨HXo_ok.1, fun _ h => by cases h⟩⟩) 2 (by kernel_rfl) ⟨⟨trivial, loI (s0 := HXi) (by kernel_rfl) HXi_ok⟩, loI (s0 := HXo) (by kernel_rfl) HXo_ok⟩
theorem run_txX (v u : Int) (a b : V) : runFC Tryz.prog T K19 LoBX false FU 31 (List Rs) (mkAs T [27] [.l [.i v, a, b, .i u]]) (fun _ => none) 0 (fun out => resC T true [.r 5] out) = txD v u a b (fun xs => some [.r 5 xs false]) := by kernel_rfl
noncomputable def tab20 : List (Nat × SymC) := (31, pureS T true [27] (gF txg (txr 5))) :: tab19
theorem tab20_ok : TabOK Tryz.prog T tab20 := by
  refine pure_conG (sh := true) (rk := [.r 5]) (d := 4) (fu := FU) (Lo := LoBX) (ds := [DTx]) follows T_ok tab19_ok (by kernel_rfl) LoBX_ok 40 (by kernel_rfl) (fun xs hd hg => ?_)
  obtain ⟨a, rfl, ha⟩ := hasL1 hd
  obtain ⟨v, x, y, u, rfl, _, hx, hy, _⟩ := tx_v ha
  exact (run_txX v u x y).trans (txB_law _ hx hy hg).2
noncomputable def K20 : KC := runAC Tryz.prog T tab20 false FU 4
theorem hK20 : K20.nat := runAC_nat tab20_ok 4
theorem hS20 : KOK Tryz.prog T K20.dir := runAC_ok follows T_ok tab20_ok 4
theorem run_txiT (t : V) : runFC Tryz.prog T K20 (fun _ _ => none) false FU 39 (List Rs) (mkAs T [27] [t]) (fun _ => none) 0 (fun out => resC T true [.d 35] out) = txiGT 35 t := by kernel_rfl
noncomputable def tab21 : List (Nat × SymC) := (39, pureS T true [27] (gF txg (txir 35))) :: tab20
theorem tab21_ok : TabOK Tryz.prog T tab21 := by
  refine pure_conG (sh := true) (rk := [.d 35]) (d := 4) (fu := FU) (Lo := (fun _ _ => none)) (ds := [DTx]) follows T_ok tab20_ok (by kernel_rfl) loopsC_none 40 (by kernel_rfl) (fun xs hd hg => ?_)
  obtain ⟨a, rfl, ha⟩ := hasL1 hd
  exact (run_txiT a).trans (txi_law ha hg).1
noncomputable def K21 : KC := runAC Tryz.prog T tab21 false FU 4
theorem hK21 : K21.nat := runAC_nat tab21_ok 4
theorem hS21 : KOK Tryz.prog T K21.dir := runAC_ok follows T_ok tab21_ok 4
theorem run_txiX (t : V) : runFC Tryz.prog T K21 (fun _ _ => none) false FU 12 (List Rs) (mkAs T [27] [t]) (fun _ => none) 0 (fun out => resC T true [.d 35] out) = txiGX 35 t := by kernel_rfl
noncomputable def tab22 : List (Nat × SymC) := (12, pureS T true [27] (gF txg (txir 35))) :: tab21
theorem tab22_ok : TabOK Tryz.prog T tab22 := by
  refine pure_conG (sh := true) (rk := [.d 35]) (d := 4) (fu := FU) (Lo := (fun _ _ => none)) (ds := [DTx]) follows T_ok tab21_ok (by kernel_rfl) loopsC_none 40 (by kernel_rfl) (fun xs hd hg => ?_)
  obtain ⟨a, rfl, ha⟩ := hasL1 hd
  exact (run_txiX a).trans (txi_law ha hg).2
noncomputable def K22 : KC := runAC Tryz.prog T tab22 false FU 4
theorem hK22 : K22.nat := runAC_nat tab22_ok 4
theorem hS22 : KOK Tryz.prog T K22.dir := runAC_ok follows T_ok tab22_ok 4
end Go.Proofs.YteoeonfajlnggaaGreat

namespace Go.Proofs.YteoeonfajlnggaaGreat
open Go.Vm
set_option maxRecDepth 100000
set_option linter.unusedVariables false
set_option linter.constructorNameAsVariable false
theorem run_cp (v h : Int) (k : V) (q : Bool) : runFC Tryz.prog T K22 (fun _ _ => none) false FU 34 (List Rs) (mkAs T [43] [.l [.l [.i v, k], .i h, .b q]]) (fun _ => none) 0 (fun out => resC T true [.d 43] out) = cpG 43 v h k q := by kernel_rfl
noncomputable def tab23 : List (Nat × SymC) := (34, pureS T true [43] (gF cpg (cpr 43))) :: tab22
theorem tab23_ok : TabOK Tryz.prog T tab23 := by
  refine pure_conG (sh := true) (rk := [.d 43]) (d := 4) (fu := FU) (Lo := (fun _ _ => none)) (ds := [DCoin]) follows T_ok tab22_ok (by kernel_rfl) loopsC_none 40 (by kernel_rfl) (fun xs hd hg => ?_)
  obtain ⟨a, rfl, ha⟩ := hasL1 hd
  obtain ⟨v, k, h, q, rfl, _, hk, _⟩ := coin_vs ha
  exact (run_cp v h k q).trans (cpy_law hk hg)
noncomputable def K23 : KC := runAC Tryz.prog T tab23 false FU 4
theorem hK23 : K23.nat := runAC_nat tab23_ok 4
theorem hS23 : KOK Tryz.prog T K23.dir := runAC_ok follows T_ok tab23_ok 4
theorem run_bsa (v u : Int) (x y : V) : runFC Tryz.prog T K23 (fun _ _ => none) false FU 38 (List Rs) (mkAs T [27] [.l [.i v, x, y, .i u]]) (fun _ => none) 0 (fun out => resC T true [.d 4] out) = bsG 4 x := by kernel_rfl
noncomputable def tab24 : List (Nat × SymC) := (38, pureS T true [27] (gF bsg (bsr 4))) :: tab23
theorem tab24_ok : TabOK Tryz.prog T tab24 := by
  refine pure_conG (sh := true) (rk := [.d 4]) (d := 4) (fu := FU) (Lo := (fun _ _ => none)) (ds := [DTx]) follows T_ok tab23_ok (by kernel_rfl) loopsC_none 40 (by kernel_rfl) (fun xs hd hg => ?_)
  obtain ⟨a, rfl, ha⟩ := hasL1 hd
  obtain ⟨v, x, y, u, rfl, _⟩ := tx_v ha
  exact (run_bsa v u x y).trans (bs_law hg)
noncomputable def K24 : KC := runAC Tryz.prog T tab24 false FU 4
theorem hK24 : K24.nat := runAC_nat tab24_ok 4
theorem hS24 : KOK Tryz.prog T K24.dir := runAC_ok follows T_ok tab24_ok 4
theorem run_bsb (v u : Int) (x y : V) : runFC Tryz.prog T K24 (fun _ _ => none) false FU 10 (List Rs) (mkAs T [27] [.l [.i v, x, y, .i u]]) (fun _ => none) 0 (fun out => resC T true [.d 4] out) = bsG 4 x := by kernel_rfl
noncomputable def tab25 : List (Nat × SymC) := (10, pureS T true [27] (gF bsg (bsr 4))) :: tab24
theorem tab25_ok : TabOK Tryz.prog T tab25 := by
  refine pure_conG (sh := true) (rk := [.d 4]) (d := 4) (fu := FU) (Lo := (fun _ _ => none)) (ds := [DTx]) follows T_ok tab24_ok (by kernel_rfl) loopsC_none 40 (by kernel_rfl) (fun xs hd hg => ?_)
  obtain ⟨a, rfl, ha⟩ := hasL1 hd
  obtain ⟨v, x, y, u, rfl, _⟩ := tx_v ha
  exact (run_bsb v u x y).trans (bs_law hg)
noncomputable def K25 : KC := runAC Tryz.prog T tab25 false FU 4
theorem hK25 : K25.nat := runAC_nat tab25_ok 4
theorem hS25 : KOK Tryz.prog T K25.dir := runAC_ok follows T_ok tab25_ok 4
noncomputable def tmSc : PSc → Vm.St
  | .m l s n i => ⟨[(2, .i .i64 0), (3, .i .i64 0), (4, .i .i64 s), (7, .v 25 l), (8, .i .i64 n), (9, .i .i64 i)], .e, [], 0, some []⟩
noncomputable def ekSc (R : Type) (kx : Exit → Vm.St → Option R) : QSc → Option R
  | .o l s n i => kx (.exit 0) ⟨[(2, .i .i64 0), (3, .i .i64 0), (4, .i .i64 s), (7, .v 25 l), (8, .i .i64 n), (9, .i .i64 i)], .e, [], 64, some []⟩
  | .r l s n i => kx (.ret) ⟨[(2, .i .i64 0), (3, .i .i64 91), (4, .i .i64 s), (7, .v 25 l), (8, .i .i64 n), (9, .i .i64 i)], .e, [], 64, some []⟩
noncomputable def extSc : Vm.St → Option PSc
  | ⟨[(2, .i .i64 0), (3, .i .i64 0), (4, .i .i64 s), (7, .v 25 l), (8, .i .i64 n), (9, .i .i64 i)], .e, [], 0, some []⟩ => some (.m l s n i)
  | _ => none
theorem extSc_ok (τ : Vm.St) (x : PSc) (h : extSc τ = some x) : τ = tmSc x := by
  unfold extSc at h
  split at h <;> first | (cases h; rfl) | cases h
theorem stepSc (R : Type) (of : Nat → Option Ob) (x : PSc) (K : Vm.St → Option R) (kx : Exit → Vm.St → Option R) : execC T K25 (fun _ => none) false FU (ntOf Tryz.prog 37) of R (lp (codeOf Tryz.prog 37) 0) (tmSc x) (sortN 0 [999999, 2, 3, 4, 7, 8, 9] 64 K kx) = BSc R x (fun x' => K (tmSc x')) (ekSc R kx) := by
  cases x with
  | m _ _ _ _ => kernel_rfl
noncomputable def HSc : LS := loopH T K25 (fun _ => none) (ntOf Tryz.prog 37) (lp (codeOf Tryz.prog 37) 0) 0 [999999, 2, 3, 4, 7, 8, 9] 64 extSc BSc ekSc
theorem HSc_ok : LoopTk Tryz.prog T (ntOf Tryz.prog 37) 0 (lp (codeOf Tryz.prog 37) 0) HSc :=
  loopH_ok follows T_ok hK25 hS25 loNat_none (loopsOK_none _) tmSc extSc_ok stepSc
noncomputable def LoSc : Nat → LC := atN 0 [(3, HSc)]
theorem LoSc_ok : LoopsC Tryz.prog T 37 LoSc := loopsC_at 0 (List.forall_mem_cons.2 ⟨HSc_ok.1, fun _ h => by cases h⟩) 1 (by kernel_rfl) ⟨trivial, loI (s0 := HSc) (by kernel_rfl) HSc_ok⟩
theorem run_Sc (l : V) : runFC Tryz.prog T K25 LoSc false FU 37 (List Rs) (mkAs T [25] [l]) (fun _ => none) 0 (fun out => resC T true [.d 2, .d 48] out) = smC l (fun s e => some [.d 2 (.i s), .d 48 (.i e)]) := by kernel_rfl
noncomputable def tab26 : List (Nat × SymC) := (37, pureS T true [25] (gF smg (smr 2 48))) :: tab25
theorem tab26_ok : TabOK Tryz.prog T tab26 := by
  refine pure_conG (sh := true) (rk := [.d 2, .d 48]) (d := 4) (fu := FU) (Lo := LoSc) (ds := [.slice DOut]) follows T_ok tab25_ok (by kernel_rfl) LoSc_ok 40 (by kernel_rfl) (fun xs hd hg => ?_)
  obtain ⟨a, rfl, ha⟩ := hasL1 hd
  exact (run_Sc a).trans (smC_law _ ha hg).1
noncomputable def K26 : KC := runAC Tryz.prog T tab26 false FU 4
theorem hK26 : K26.nat := runAC_nat tab26_ok 4
theorem hS26 : KOK Tryz.prog T K26.dir := runAC_ok follows T_ok tab26_ok 4
noncomputable def tmSd : PSd → Vm.St
  | .m l s n i => ⟨[(2, .i .i64 0), (3, .i .i64 0), (4, .i .i64 s), (7, .v 25 l), (8, .i .i64 n), (9, .i .i64 i)], .e, [], 0, some []⟩
noncomputable def ekSd (R : Type) (kx : Exit → Vm.St → Option R) : QSd → Option R
  | .o l s n i => kx (.exit 0) ⟨[(2, .i .i64 0), (3, .i .i64 0), (4, .i .i64 s), (7, .v 25 l), (8, .i .i64 n), (9, .i .i64 i)], .e, [], 64, some []⟩
  | .r l s n i => kx (.ret) ⟨[(2, .i .i64 0), (3, .i .i64 91), (4, .i .i64 s), (7, .v 25 l), (8, .i .i64 n), (9, .i .i64 i)], .e, [], 64, some []⟩
noncomputable def extSd : Vm.St → Option PSd
  | ⟨[(2, .i .i64 0), (3, .i .i64 0), (4, .i .i64 s), (7, .v 25 l), (8, .i .i64 n), (9, .i .i64 i)], .e, [], 0, some []⟩ => some (.m l s n i)
  | _ => none
theorem extSd_ok (τ : Vm.St) (x : PSd) (h : extSd τ = some x) : τ = tmSd x := by
  unfold extSd at h
  split at h <;> first | (cases h; rfl) | cases h
theorem stepSd (R : Type) (of : Nat → Option Ob) (x : PSd) (K : Vm.St → Option R) (kx : Exit → Vm.St → Option R) : execC T K26 (fun _ => none) false FU (ntOf Tryz.prog 32) of R (lp (codeOf Tryz.prog 32) 0) (tmSd x) (sortN 0 [999999, 2, 3, 4, 7, 8, 9] 64 K kx) = BSd R x (fun x' => K (tmSd x')) (ekSd R kx) := by
  cases x with
  | m _ _ _ _ => kernel_rfl
noncomputable def HSd : LS := loopH T K26 (fun _ => none) (ntOf Tryz.prog 32) (lp (codeOf Tryz.prog 32) 0) 0 [999999, 2, 3, 4, 7, 8, 9] 64 extSd BSd ekSd
theorem HSd_ok : LoopTk Tryz.prog T (ntOf Tryz.prog 32) 0 (lp (codeOf Tryz.prog 32) 0) HSd :=
  loopH_ok follows T_ok hK26 hS26 loNat_none (loopsOK_none _) tmSd extSd_ok stepSd
noncomputable def LoSd : Nat → LC := atN 0 [(3, HSd)]
theorem LoSd_ok : LoopsC Tryz.prog T 32 LoSd := loopsC_at 0 (List.forall_mem_cons.2 ⟨HSd_ok.1, fun _ h => by cases h⟩) 1 (by kernel_rfl) ⟨trivial, loI (s0 := HSd) (by kernel_rfl) HSd_ok⟩
theorem run_Sd (l : V) : runFC Tryz.prog T K26 LoSd false FU 32 (List Rs) (mkAs T [25] [l]) (fun _ => none) 0 (fun out => resC T true [.d 2, .d 3] out) = smD l (fun s e => some [.d 2 (.i s), .d 3 (.i e)]) := by kernel_rfl
noncomputable def tab27 : List (Nat × SymC) := (32, pureS T true [25] (gF smg (smr 2 3))) :: tab26
theorem tab27_ok : TabOK Tryz.prog T tab27 := by
  refine pure_conG (sh := true) (rk := [.d 2, .d 3]) (d := 4) (fu := FU) (Lo := LoSd) (ds := [.slice DOut]) follows T_ok tab26_ok (by kernel_rfl) LoSd_ok 40 (by kernel_rfl) (fun xs hd hg => ?_)
  obtain ⟨a, rfl, ha⟩ := hasL1 hd
  exact (run_Sd a).trans (smC_law _ ha hg).2
noncomputable def K27 : KC := runAC Tryz.prog T tab27 false FU 4
theorem hK27 : K27.nat := runAC_nat tab27_ok 4
theorem hS27 : KOK Tryz.prog T K27.dir := runAC_ok follows T_ok tab27_ok 4
noncomputable def tmRg : PRg → Vm.St
  | .m l s n i => ⟨[(2, .b false), (3, .i .i64 s), (6, .v 22 l), (7, .i .i64 n), (8, .i .i64 i)], .e, [], 0, some []⟩
noncomputable def ekRg (R : Type) (kx : Exit → Vm.St → Option R) : QRg → Option R
  | .o l s n i => kx (.exit 0) ⟨[(2, .b false), (3, .i .i64 s), (6, .v 22 l), (7, .i .i64 n), (8, .i .i64 i)], .e, [], 64, some []⟩
  | .r l s n i => kx (.ret) ⟨[(2, .b false), (3, .i .i64 s), (6, .v 22 l), (7, .i .i64 n), (8, .i .i64 i)], .e, [], 64, some []⟩
noncomputable def extRg : Vm.St → Option PRg
  | ⟨[(2, .b false), (3, .i .i64 s), (6, .v 22 l), (7, .i .i64 n), (8, .i .i64 i)], .e, [], 0, some []⟩ => some (.m l s n i)
  | _ => none
theorem extRg_ok (τ : Vm.St) (x : PRg) (h : extRg τ = some x) : τ = tmRg x := by
  unfold extRg at h
  split at h <;> first | (cases h; rfl) | cases h
theorem stepRg (R : Type) (of : Nat → Option Ob) (x : PRg) (K : Vm.St → Option R) (kx : Exit → Vm.St → Option R) : execC T K27 (fun _ => none) false FU (ntOf Tryz.prog 7) of R (lp (codeOf Tryz.prog 7) 0) (tmRg x) (sortN 0 [999999, 2, 3, 6, 7, 8] 64 K kx) = BRg R x (fun x' => K (tmRg x')) (ekRg R kx) := by
  cases x with
  | m _ _ _ _ => kernel_rfl
noncomputable def HRg : LS := loopH T K27 (fun _ => none) (ntOf Tryz.prog 7) (lp (codeOf Tryz.prog 7) 0) 0 [999999, 2, 3, 6, 7, 8] 64 extRg BRg ekRg
theorem HRg_ok : LoopTk Tryz.prog T (ntOf Tryz.prog 7) 0 (lp (codeOf Tryz.prog 7) 0) HRg :=
  loopH_ok follows T_ok hK27 hS27 loNat_none (loopsOK_none _) tmRg extRg_ok stepRg
noncomputable def LoRg : Nat → LC := atN 0 [(3, HRg)]
theorem LoRg_ok : LoopsC Tryz.prog T 7 LoRg := loopsC_at 0 (List.forall_mem_cons.2 ⟨HRg_ok.1, fun _ h => by cases h⟩) 1 (by kernel_rfl) ⟨trivial, loI (s0 := HRg) (by kernel_rfl) HRg_ok⟩
theorem run_Rg (l : V) : runFC Tryz.prog T K27 LoRg false FU 7 (List Rs) (mkAs T [22] [l]) (fun _ => none) 0 (fun out => resC T true [.d 4] out) = rgC l (fun q => some [.d 4 (.b q)]) := by kernel_rfl
noncomputable def tab28 : List (Nat × SymC) := (7, pureS T true [22] (gF rgg (rgr 4))) :: tab27
theorem tab28_ok : TabOK Tryz.prog T tab28 := by
  refine pure_conG (sh := true) (rk := [.d 4]) (d := 4) (fu := FU) (Lo := LoRg) (ds := [.slice DSpent]) follows T_ok tab27_ok (by kernel_rfl) LoRg_ok 40 (by kernel_rfl) (fun xs hd hg => ?_)
  obtain ⟨a, rfl, ha⟩ := hasL1 hd
  exact (run_Rg a).trans (rgC_law ha hg)
noncomputable def K28 : KC := runAC Tryz.prog T tab28 false FU 4
theorem hK28 : K28.nat := runAC_nat tab28_ok 4
theorem hS28 : KOK Tryz.prog T K28.dir := runAC_ok follows T_ok tab28_ok 4
noncomputable def tmGa : PGa → Vm.St
  | .m t l n i => ⟨[(1, .p 0 27 []), (2, .b false), (18, .v 24 l), (19, .i .i64 n), (20, .i .i64 i)], (.n (some (.box 27 (.v 27 t) false)) .e .e), [], 1, some []⟩
noncomputable def ekGa (R : Type) (kx : Exit → Vm.St → Option R) : QGa → Option R
  | .o t l n i => kx (.exit 0) ⟨[(1, .p 0 27 []), (2, .b false), (18, .v 24 l), (19, .i .i64 n), (20, .i .i64 i)], (.n (some (.box 27 (.v 27 t) false)) .e .e), [], 64, some []⟩
  | .r t l n i => kx (.ret) ⟨[(1, .p 0 27 []), (2, .b true), (18, .v 24 l), (19, .i .i64 n), (20, .i .i64 i)], (.n (some (.box 27 (.v 27 t) false)) .e .e), [], 64, some []⟩
noncomputable def extGa : Vm.St → Option PGa
  | ⟨[(1, .p 0 27 []), (2, .b false), (18, .v 24 l), (19, .i .i64 n), (20, .i .i64 i)], (.n (some (.box 27 (.v 27 t) false)) .e .e), [], 1, some []⟩ => some (.m t l n i)
  | _ => none
theorem extGa_ok (τ : Vm.St) (x : PGa) (h : extGa τ = some x) : τ = tmGa x := by
  unfold extGa at h
  split at h <;> first | (cases h; rfl) | cases h
theorem stepGa (R : Type) (of : Nat → Option Ob) (x : PGa) (K : Vm.St → Option R) (kx : Exit → Vm.St → Option R) : execC T K28 (fun _ => none) false FU (ntOf Tryz.prog 8) of R (lp (codeOf Tryz.prog 8) 0) (tmGa x) (sortN 0 [999999, 1, 2, 18, 19, 20] 64 K kx) = BGa R x (fun x' => K (tmGa x')) (ekGa R kx) := by
  cases x with
  | m _ _ _ _ => kernel_rfl
noncomputable def HGa : LS := loopH T K28 (fun _ => none) (ntOf Tryz.prog 8) (lp (codeOf Tryz.prog 8) 0) 0 [999999, 1, 2, 18, 19, 20] 64 extGa BGa ekGa
theorem HGa_ok : LoopTk Tryz.prog T (ntOf Tryz.prog 8) 0 (lp (codeOf Tryz.prog 8) 0) HGa :=
  loopH_ok follows T_ok hK28 hS28 loNat_none (loopsOK_none _) tmGa extGa_ok stepGa
noncomputable def tmGb : PGb → Vm.St
  | .m t l n i => ⟨[(1, .p 0 27 []), (2, .b false), (30, .v 25 l), (31, .i .i64 n), (32, .i .i64 i)], (.n (some (.box 27 (.v 27 t) false)) .e .e), [], 1, some []⟩
noncomputable def ekGb (R : Type) (kx : Exit → Vm.St → Option R) : QGb → Option R
  | .o t l n i => kx (.exit 2) ⟨[(1, .p 0 27 []), (2, .b false), (30, .v 25 l), (31, .i .i64 n), (32, .i .i64 i)], (.n (some (.box 27 (.v 27 t) false)) .e .e), [], 64, some []⟩
  | .r t l n i => kx (.ret) ⟨[(1, .p 0 27 []), (2, .b true), (30, .v 25 l), (31, .i .i64 n), (32, .i .i64 i)], (.n (some (.box 27 (.v 27 t) false)) .e .e), [], 64, some []⟩
noncomputable def extGb : Vm.St → Option PGb
  | ⟨[(1, .p 0 27 []), (2, .b false), (30, .v 25 l), (31, .i .i64 n), (32, .i .i64 i)], (.n (some (.box 27 (.v 27 t) false)) .e .e), [], 1, some []⟩ => some (.m t l n i)
  | _ => none
theorem extGb_ok (τ : Vm.St) (x : PGb) (h : extGb τ = some x) : τ = tmGb x := by
  unfold extGb at h
  split at h <;> first | (cases h; rfl) | cases h
theorem stepGb (R : Type) (of : Nat → Option Ob) (x : PGb) (K : Vm.St → Option R) (kx : Exit → Vm.St → Option R) : execC T K28 (fun _ => none) false FU (ntOf Tryz.prog 8) of R (lp (codeOf Tryz.prog 8) 1) (tmGb x) (sortN 0 [999999, 1, 2, 30, 31, 32] 64 K kx) = BGb R x (fun x' => K (tmGb x')) (ekGb R kx) := by
  cases x with
  | m _ _ _ _ => kernel_rfl
noncomputable def HGb : LS := loopH T K28 (fun _ => none) (ntOf Tryz.prog 8) (lp (codeOf Tryz.prog 8) 1) 0 [999999, 1, 2, 30, 31, 32] 64 extGb BGb ekGb
theorem HGb_ok : LoopTk Tryz.prog T (ntOf Tryz.prog 8) 0 (lp (codeOf Tryz.prog 8) 1) HGb :=
  loopH_ok follows T_ok hK28 hS28 loNat_none (loopsOK_none _) tmGb extGb_ok stepGb
noncomputable def LoGt : Nat → LC := atN 0 [(4, HGa), (10, HGb)]
theorem LoGt_ok : LoopsC Tryz.prog T 8 LoGt := loopsC_at 0 (List.forall_mem_cons.2 ⟨HGa_ok.1, List.forall_mem_cons.2 ⟨HGb_ok.1, fun _ h => by cases h⟩⟩) 2 (by kernel_rfl) ⟨⟨trivial, loI (s0 := HGa) (by kernel_rfl) HGa_ok⟩, loI (s0 := HGb) (by kernel_rfl) HGb_ok⟩
theorem run_Gt (v u : Int) (x y : V) : runFC Tryz.prog T K28 LoGt false FU 8 (List Rs) (mkAs T [27] [.l [.i v, x, y, .i u]]) (fun _ => none) 0 (fun out => resC T true [.d 4] out) = gtC v u x y (fun q => some [.d 4 (.b q)]) := by kernel_rfl
noncomputable def tab29 : List (Nat × SymC) := (8, pureS T true [27] (gF gtg (gtr 4))) :: tab28
theorem tab29_ok : TabOK Tryz.prog T tab29 := by
  refine pure_conG (sh := true) (rk := [.d 4]) (d := 4) (fu := FU) (Lo := LoGt) (ds := [DTx]) follows T_ok tab28_ok (by kernel_rfl) LoGt_ok 40 (by kernel_rfl) (fun xs hd hg => ?_)
  obtain ⟨a, rfl, ha⟩ := hasL1 hd
  obtain ⟨v, x, y, u, rfl, _⟩ := tx_v ha
  exact (run_Gt v u x y).trans (gtC_law hg)
noncomputable def K29 : KC := runAC Tryz.prog T tab29 false FU 4
theorem hK29 : K29.nat := runAC_nat tab29_ok 4
theorem hS29 : KOK Tryz.prog T K29.dir := runAC_ok follows T_ok tab29_ok 4
end Go.Proofs.YteoeonfajlnggaaGreat

namespace Go.Proofs.YteoeonfajlnggaaGreat
open Go.Vm
set_option maxRecDepth 100000
set_option linter.unusedVariables false
set_option linter.constructorNameAsVariable false
noncomputable def tmCi : PCi → Vm.St
  | .m t l n i a j => ⟨[(1, .p 0 27 []), (2, .i .i64 0), (5, .i .i64 a), (6, .i .i64 j), (35, .v 24 l), (36, .i .i64 n), (37, .i .i64 i)], (.n (some (.box 27 (.v 27 t) false)) .e .e), [], 1, some []⟩
noncomputable def ekCi (R : Type) (kx : Exit → Vm.St → Option R) : QCi → Option R
  | .o t l n i a j => kx (.exit 2) ⟨[(1, .p 0 27 []), (2, .i .i64 0), (5, .i .i64 a), (6, .i .i64 j), (35, .v 24 l), (36, .i .i64 n), (37, .i .i64 i)], (.n (some (.box 27 (.v 27 t) false)) .e .e), [], 64, some []⟩
  | .r t l n i a j => kx (.ret) ⟨[(1, .p 0 27 []), (2, .i .i64 101), (5, .i .i64 a), (6, .i .i64 j), (35, .v 24 l), (36, .i .i64 n), (37, .i .i64 i)], (.n (some (.box 27 (.v 27 t) false)) .e .e), [], 64, some []⟩
noncomputable def extCi : Vm.St → Option PCi
  | ⟨[(1, .p 0 27 []), (2, .i .i64 0), (5, .i .i64 a), (6, .i .i64 j), (35, .v 24 l), (36, .i .i64 n), (37, .i .i64 i)], (.n (some (.box 27 (.v 27 t) false)) .e .e), [], 1, some []⟩ => some (.m t l n i a j)
  | _ => none
theorem extCi_ok (τ : Vm.St) (x : PCi) (h : extCi τ = some x) : τ = tmCi x := by
  unfold extCi at h
  split at h <;> first | (cases h; rfl) | cases h
theorem stepCi (R : Type) (of : Nat → Option Ob) (x : PCi) (K : Vm.St → Option R) (kx : Exit → Vm.St → Option R) : execC T K29 (fun _ => none) false FU (ntOf Tryz.prog 9) of R (lp (codeOf Tryz.prog 9) 1) (tmCi x) (sortN 0 [999999, 1, 2, 5, 6, 35, 36, 37] 64 K kx) = BCi R x (fun x' => K (tmCi x')) (ekCi R kx) := by
  cases x with
  | m _ _ _ _ _ _ => kernel_rfl
noncomputable def HCi : LS := loopH T K29 (fun _ => none) (ntOf Tryz.prog 9) (lp (codeOf Tryz.prog 9) 1) 0 [999999, 1, 2, 5, 6, 35, 36, 37] 64 extCi BCi ekCi
theorem HCi_ok : LoopTk Tryz.prog T (ntOf Tryz.prog 9) 0 (lp (codeOf Tryz.prog 9) 1) HCi :=
  loopH_ok follows T_ok hK29 hS29 loNat_none (loopsOK_none _) tmCi extCi_ok stepCi
noncomputable def tmCo : PCo → Vm.St
  | .m t l n i => ⟨[(1, .p 0 27 []), (2, .i .i64 0), (35, .v 24 l), (36, .i .i64 n), (37, .i .i64 i)], (.n (some (.box 27 (.v 27 t) false)) .e .e), [], 1, some []⟩
noncomputable def ekCo (R : Type) (kx : Exit → Vm.St → Option R) : QCo → Option R
  | .o t l n i => kx (.exit 0) ⟨[(1, .p 0 27 []), (2, .i .i64 0), (35, .v 24 l), (36, .i .i64 n), (37, .i .i64 i)], (.n (some (.box 27 (.v 27 t) false)) .e .e), [], 128, some []⟩
  | .r t l n i => kx (.ret) ⟨[(1, .p 0 27 []), (2, .i .i64 101), (35, .v 24 l), (36, .i .i64 n), (37, .i .i64 i)], (.n (some (.box 27 (.v 27 t) false)) .e .e), [], 128, some []⟩
noncomputable def extCo : Vm.St → Option PCo
  | ⟨[(1, .p 0 27 []), (2, .i .i64 0), (35, .v 24 l), (36, .i .i64 n), (37, .i .i64 i)], (.n (some (.box 27 (.v 27 t) false)) .e .e), [], 1, some []⟩ => some (.m t l n i)
  | _ => none
theorem extCo_ok (τ : Vm.St) (x : PCo) (h : extCo τ = some x) : τ = tmCo x := by
  unfold extCo at h
  split at h <;> first | (cases h; rfl) | cases h
theorem stepCo (R : Type) (of : Nat → Option Ob) (x : PCo) (K : Vm.St → Option R) (kx : Exit → Vm.St → Option R) : execC T K29 (loT [(10, HCi)]) false FU (ntOf Tryz.prog 9) of R (lp (codeOf Tryz.prog 9) 0) (tmCo x) (sortN 0 [999999, 1, 2, 35, 36, 37] 128 K kx) = BCo R x (fun x' => K (tmCo x')) (ekCo R kx) := by
  cases x with
  | m _ _ _ _ => kernel_rfl
noncomputable def HCo : LS := loopH T K29 (loT [(10, HCi)]) (ntOf Tryz.prog 9) (lp (codeOf Tryz.prog 9) 0) 0 [999999, 1, 2, 35, 36, 37] 128 extCo BCo ekCo
theorem HCo_ok : LoopTk Tryz.prog T (ntOf Tryz.prog 9) 0 (lp (codeOf Tryz.prog 9) 0) HCo :=
  loopH_ok follows T_ok hK29 hS29 (loT_nat (List.forall_mem_cons.2 ⟨HCi_ok.1, fun _ h => by cases h⟩)) (loopsOK_at 1 (by kernel_rfl) ⟨trivial, loI (s0 := HCi) (by kernel_rfl) ((show lp (lp (codeOf Tryz.prog 9) 0) 0 = lp (codeOf Tryz.prog 9) 1 from by kernel_rfl) ▸ HCi_ok)⟩) tmCo extCo_ok stepCo
noncomputable def tmCt : PCt → Vm.St
  | .m t l n i => ⟨[(1, .p 0 27 []), (2, .i .i64 0), (60, .v 24 l), (61, .i .i64 n), (62, .i .i64 i)], (.n (some (.box 27 (.v 27 t) false)) .e .e), [], 1, some []⟩
noncomputable def ekCt (R : Type) (kx : Exit → Vm.St → Option R) : QCt → Option R
  | .o t l n i => kx (.exit 4) ⟨[(1, .p 0 27 []), (2, .i .i64 0), (60, .v 24 l), (61, .i .i64 n), (62, .i .i64 i)], (.n (some (.box 27 (.v 27 t) false)) .e .e), [], 256, some []⟩
  | .r t l n i => kx (.ret) ⟨[(1, .p 0 27 []), (2, .i .i64 101), (60, .v 24 l), (61, .i .i64 n), (62, .i .i64 i)], (.n (some (.box 27 (.v 27 t) false)) .e .e), [], 256, some []⟩
noncomputable def extCt : Vm.St → Option PCt
  | ⟨[(1, .p 0 27 []), (2, .i .i64 0), (60, .v 24 l), (61, .i .i64 n), (62, .i .i64 i)], (.n (some (.box 27 (.v 27 t) false)) .e .e), [], 1, some []⟩ => some (.m t l n i)
  | _ => none
theorem extCt_ok (τ : Vm.St) (x : PCt) (h : extCt τ = some x) : τ = tmCt x := by
  unfold extCt at h
  split at h <;> first | (cases h; rfl) | cases h
theorem stepCt (R : Type) (of : Nat → Option Ob) (x : PCt) (K : Vm.St → Option R) (kx : Exit → Vm.St → Option R) : execC T K29 (fun _ => none) false FU (ntOf Tryz.prog 9) of R (lp (codeOf Tryz.prog 9) 2) (tmCt x) (sortN 0 [999999, 1, 2, 60, 61, 62] 256 K kx) = BCt R x (fun x' => K (tmCt x')) (ekCt R kx) := by
  cases x with
  | m _ _ _ _ => kernel_rfl
noncomputable def HCt : LS := loopH T K29 (fun _ => none) (ntOf Tryz.prog 9) (lp (codeOf Tryz.prog 9) 2) 0 [999999, 1, 2, 60, 61, 62] 256 extCt BCt ekCt
theorem HCt_ok : LoopTk Tryz.prog T (ntOf Tryz.prog 9) 0 (lp (codeOf Tryz.prog 9) 2) HCt :=
  loopH_ok follows T_ok hK29 hS29 loNat_none (loopsOK_none _) tmCt extCt_ok stepCt
noncomputable def LoCk : Nat → LC := atN 0 [(7, HCo), (16, HCt)]
theorem LoCk_ok : LoopsC Tryz.prog T 9 LoCk := loopsC_at 0 (List.forall_mem_cons.2 ⟨HCo_ok.1, List.forall_mem_cons.2 ⟨HCt_ok.1, fun _ h => by cases h⟩⟩) 3 (by kernel_rfl) ⟨⟨⟨trivial, loI (s0 := HCo) (by kernel_rfl) HCo_ok⟩, loN (by kernel_rfl)⟩, loI (s0 := HCt) (by kernel_rfl) HCt_ok⟩
theorem run_Ck (v u : Int) (x y : V) : runFC Tryz.prog T K29 LoCk false FU 9 (List Rs) (mkAs T [27] [.l [.i v, x, y, .i u]]) (fun _ => none) 0 (fun out => resC T true [.d 3] out) = ckG v u x y (fun e => some [.d 3 (.i e)]) := by kernel_rfl
noncomputable def tab30 : List (Nat × SymC) := (9, pureS T true [27] (gF txg (chr 3))) :: tab29
theorem tab30_ok : TabOK Tryz.prog T tab30 := by
  refine pure_conG (sh := true) (rk := [.d 3]) (d := 4) (fu := FU) (Lo := LoCk) (ds := [DTx]) follows T_ok tab29_ok (by kernel_rfl) LoCk_ok 40 (by kernel_rfl) (fun xs hd hg => ?_)
  obtain ⟨a, rfl, ha⟩ := hasL1 hd
  obtain ⟨v, x, y, u, rfl, hv, hx, hy, hu⟩ := tx_v ha
  exact (run_Ck v u x y).trans (ckG_law _ hx hy hv hu hg)
noncomputable def K30 : KC := runAC Tryz.prog T tab30 false FU 4
theorem hK30 : K30.nat := runAC_nat tab30_ok 4
theorem hS30 : KOK Tryz.prog T K30.dir := runAC_ok follows T_ok tab30_ok 4
noncomputable def tmNw : PNw → Vm.St
  | .m l es n i => ⟨[(3, .p 0 81 []), (9, .v 22 l), (10, .i .i64 n), (11, .i .i64 i)], (.n (some (.box 81 (.g 81 [.m 1]) false)) (.n (some (.vm 38 43 es)) .e .e) .e), [], 2, some []⟩
noncomputable def ekNw (R : Type) (kx : Exit → Vm.St → Option R) : QNw → Option R
  | .o l es n i => kx (.exit 0) ⟨[(3, .p 0 81 []), (9, .v 22 l), (10, .i .i64 n), (11, .i .i64 i)], (.n (some (.box 81 (.g 81 [.m 1]) false)) (.n (some (.vm 38 43 es)) .e .e) .e), [], 64, some []⟩
noncomputable def extNw : Vm.St → Option PNw
  | ⟨[(3, .p 0 81 []), (9, .v 22 l), (10, .i .i64 n), (11, .i .i64 i)], (.n (some (.box 81 (.g 81 [.m 1]) false)) (.n (some (.vm 38 43 es)) .e .e) .e), [], 2, some []⟩ => some (.m l es n i)
  | _ => none
theorem extNw_ok (τ : Vm.St) (x : PNw) (h : extNw τ = some x) : τ = tmNw x := by
  unfold extNw at h
  split at h <;> first | (cases h; rfl) | cases h
theorem stepNw (R : Type) (of : Nat → Option Ob) (x : PNw) (K : Vm.St → Option R) (kx : Exit → Vm.St → Option R) : execC T K30 (fun _ => none) false FU (ntOf Tryz.prog 11) of R (lp (codeOf Tryz.prog 11) 0) (tmNw x) (sortN 0 [999999, 3, 9, 10, 11] 64 K kx) = BNw R x (fun x' => K (tmNw x')) (ekNw R kx) := by
  cases x with
  | m _ _ _ _ => kernel_rfl
noncomputable def HNw : LS := loopH T K30 (fun _ => none) (ntOf Tryz.prog 11) (lp (codeOf Tryz.prog 11) 0) 0 [999999, 3, 9, 10, 11] 64 extNw BNw ekNw
theorem HNw_ok : LoopTk Tryz.prog T (ntOf Tryz.prog 11) 0 (lp (codeOf Tryz.prog 11) 0) HNw :=
  loopH_ok follows T_ok hK30 hS30 loNat_none (loopsOK_none _) tmNw extNw_ok stepNw
noncomputable def LoNw : Nat → LC := atN 0 [(3, HNw)]
theorem LoNw_ok : LoopsC Tryz.prog T 11 LoNw := loopsC_at 0 (List.forall_mem_cons.2 ⟨HNw_ok.1, fun _ h => by cases h⟩) 1 (by kernel_rfl) ⟨trivial, loI (s0 := HNw) (by kernel_rfl) HNw_ok⟩
noncomputable def tmFe : PFe → Vm.St
  | .m es t l h s n i => ⟨[(0, .p 0 81 []), (2, .i .i64 h), (4, .p 2 27 []), (6, .i .i64 0), (7, .i .i64 0), (8, .i .i64 s), (16, .v 24 l), (17, .i .i64 n), (18, .i .i64 i)], (.n (some (.box 81 (.g 81 [.m 1]) false)) (.n (some (.vm 38 43 es)) .e .e) (.n (some (.box 27 (.v 27 t) false)) .e .e)), [1, 0], 3, some []⟩
noncomputable def ekFe (R : Type) (kx : Exit → Vm.St → Option R) : QFe → Option R
  | .o es t l h s n i => kx (.exit 0) ⟨[(0, .p 0 81 []), (2, .i .i64 h), (4, .p 2 27 []), (6, .i .i64 0), (7, .i .i64 0), (8, .i .i64 s), (16, .v 24 l), (17, .i .i64 n), (18, .i .i64 i)], (.n (some (.box 81 (.g 81 [.m 1]) false)) (.n (some (.vm 38 43 es)) .e .e) (.n (some (.box 27 (.v 27 t) false)) .e .e)), [1, 0], 64, some []⟩
  | .c es t l h s n i => kx (.ret) ⟨[(0, .p 0 81 []), (2, .i .i64 h), (4, .p 2 27 []), (6, .i .i64 0), (7, .i .i64 161), (8, .i .i64 s), (16, .v 24 l), (17, .i .i64 n), (18, .i .i64 i)], (.n (some (.box 81 (.g 81 [.m 1]) false)) (.n (some (.vm 38 43 es)) .e .e) (.n (some (.box 27 (.v 27 t) false)) .e .e)), [1, 0], 64, some []⟩
  | .y es t l h s n i => kx (.ret) ⟨[(0, .p 0 81 []), (2, .i .i64 h), (4, .p 2 27 []), (6, .i .i64 0), (7, .i .i64 162), (8, .i .i64 s), (16, .v 24 l), (17, .i .i64 n), (18, .i .i64 i)], (.n (some (.box 81 (.g 81 [.m 1]) false)) (.n (some (.vm 38 43 es)) .e .e) (.n (some (.box 27 (.v 27 t) false)) .e .e)), [1, 0], 64, some []⟩
  | .z es t l h s n i => kx (.ret) ⟨[(0, .p 0 81 []), (2, .i .i64 h), (4, .p 2 27 []), (6, .i .i64 0), (7, .i .i64 91), (8, .i .i64 s), (16, .v 24 l), (17, .i .i64 n), (18, .i .i64 i)], (.n (some (.box 81 (.g 81 [.m 1]) false)) (.n (some (.vm 38 43 es)) .e .e) (.n (some (.box 27 (.v 27 t) false)) .e .e)), [1, 0], 64, some []⟩
noncomputable def extFe : Vm.St → Option PFe
  | ⟨[(0, .p 0 81 []), (2, .i .i64 h), (4, .p 2 27 []), (6, .i .i64 0), (7, .i .i64 0), (8, .i .i64 s), (16, .v 24 l), (17, .i .i64 n), (18, .i .i64 i)], (.n (some (.box 81 (.g 81 [.m 1]) false)) (.n (some (.vm 38 43 es)) .e .e) (.n (some (.box 27 (.v 27 t) false)) .e .e)), [1, 0], 3, some []⟩ => some (.m es t l h s n i)
  | _ => none
theorem extFe_ok (τ : Vm.St) (x : PFe) (h : extFe τ = some x) : τ = tmFe x := by
  unfold extFe at h
  split at h <;> first | (cases h; rfl) | cases h
theorem stepFe (R : Type) (of : Nat → Option Ob) (x : PFe) (K : Vm.St → Option R) (kx : Exit → Vm.St → Option R) : execC T K30 (fun _ => none) false FU (ntOf Tryz.prog 15) of R (lp (codeOf Tryz.prog 15) 0) (tmFe x) (sortN 2 [999999, 0, 2, 4, 6, 7, 8, 16, 17, 18] 64 K kx) = BFe R x (fun x' => K (tmFe x')) (ekFe R kx) := by
  cases x with
  | m _ _ _ _ _ _ _ => kernel_rfl
noncomputable def HFe : LS := loopH T K30 (fun _ => none) (ntOf Tryz.prog 15) (lp (codeOf Tryz.prog 15) 0) 2 [999999, 0, 2, 4, 6, 7, 8, 16, 17, 18] 64 extFe BFe ekFe
theorem HFe_ok : LoopTk Tryz.prog T (ntOf Tryz.prog 15) 2 (lp (codeOf Tryz.prog 15) 0) HFe :=
  loopH_ok follows T_ok hK30 hS30 loNat_none (loopsOK_none _) tmFe extFe_ok stepFe
noncomputable def LoFe : Nat → LC := atN 2 [(3, HFe)]
theorem LoFe_ok : LoopsC Tryz.prog T 15 LoFe := loopsC_at 2 (List.forall_mem_cons.2 ⟨HFe_ok.1, fun _ h => by cases h⟩) 1 (by kernel_rfl) ⟨trivial, loI (s0 := HFe) (by kernel_rfl) HFe_ok⟩
noncomputable def tmAi : PAi → Vm.St
  | .m es t l h b xs nl n i => ⟨[(0, .p 0 81 []), (2, .i .i64 h), (4, .p 2 27 []), (7, .o 3 1), (8, .b b), (19, .v 24 l), (20, .i .i64 n), (21, .i .i64 i)], (.n (some (.box 81 (.g 81 [.m 1]) false)) (.n (some (.vm 38 43 es)) (.n (some (.row 45 1 xs nl false)) .e .e) .e) (.n (some (.box 27 (.v 27 t) false)) .e .e)), [1, 0], 4, some []⟩
noncomputable def ekAi (R : Type) (kx : Exit → Vm.St → Option R) : QAi → Option R
  | .o es t l h b xs nl n i => kx (.exit 0) ⟨[(0, .p 0 81 []), (2, .i .i64 h), (4, .p 2 27 []), (7, .o 3 1), (8, .b b), (19, .v 24 l), (20, .i .i64 n), (21, .i .i64 i)], (.n (some (.box 81 (.g 81 [.m 1]) false)) (.n (some (.vm 38 43 es)) (.n (some (.row 45 1 xs nl false)) .e .e) .e) (.n (some (.box 27 (.v 27 t) false)) .e .e)), [1, 0], 64, some []⟩
noncomputable def extAi : Vm.St → Option PAi
  | ⟨[(0, .p 0 81 []), (2, .i .i64 h), (4, .p 2 27 []), (7, .o 3 1), (8, .b b), (19, .v 24 l), (20, .i .i64 n), (21, .i .i64 i)], (.n (some (.box 81 (.g 81 [.m 1]) false)) (.n (some (.vm 38 43 es)) (.n (some (.row 45 1 xs nl false)) .e .e) .e) (.n (some (.box 27 (.v 27 t) false)) .e .e)), [1, 0], 4, some []⟩ => some (.m es t l h b xs nl n i)
  | _ => none
theorem extAi_ok (τ : Vm.St) (x : PAi) (h : extAi τ = some x) : τ = tmAi x := by
  unfold extAi at h
  split at h <;> first | (cases h; rfl) | cases h
theorem stepAi (R : Type) (of : Nat → Option Ob) (x : PAi) (K : Vm.St → Option R) (kx : Exit → Vm.St → Option R) : execC T K30 (fun _ => none) false FU (ntOf Tryz.prog 16) of R (lp (codeOf Tryz.prog 16) 0) (tmAi x) (sortN 2 [999999, 0, 2, 4, 7, 8, 19, 20, 21] 64 K kx) = BAi R x (fun x' => K (tmAi x')) (ekAi R kx) := by
  cases x with
  | m _ _ _ _ _ _ _ _ _ => kernel_rfl
noncomputable def HAi : LS := loopH T K30 (fun _ => none) (ntOf Tryz.prog 16) (lp (codeOf Tryz.prog 16) 0) 2 [999999, 0, 2, 4, 7, 8, 19, 20, 21] 64 extAi BAi ekAi
theorem HAi_ok : LoopTk Tryz.prog T (ntOf Tryz.prog 16) 2 (lp (codeOf Tryz.prog 16) 0) HAi :=
  loopH_ok follows T_ok hK30 hS30 loNat_none (loopsOK_none _) tmAi extAi_ok stepAi
noncomputable def tmAo : PAo → Vm.St
  | .m es h b xs nl d l n i => ⟨[(0, .p 0 81 []), (2, .i .i64 h), (7, .o 2 1), (8, .b b), (13, .p 3 35 []), (58, .v 25 l), (59, .i .i64 n), (60, .i .i64 i)], (.n (some (.box 81 (.g 81 [.m 1]) false)) (.n (some (.vm 38 43 es)) (.n (some (.box 35 (.v 35 d) false)) .e .e) .e) (.n (some (.row 45 1 xs nl false)) .e .e)), [1, 0], 4, some []⟩
noncomputable def ekAo (R : Type) (kx : Exit → Vm.St → Option R) : QAo → Option R
  | .o es h b xs nl d l n i => kx (.exit 2) ⟨[(0, .p 0 81 []), (2, .i .i64 h), (7, .o 2 1), (8, .b b), (13, .p 3 35 []), (58, .v 25 l), (59, .i .i64 n), (60, .i .i64 i)], (.n (some (.box 81 (.g 81 [.m 1]) false)) (.n (some (.vm 38 43 es)) (.n (some (.box 35 (.v 35 d) false)) .e .e) .e) (.n (some (.row 45 1 xs nl false)) .e .e)), [1, 0], 128, some []⟩
noncomputable def extAo : Vm.St → Option PAo
  | ⟨[(0, .p 0 81 []), (2, .i .i64 h), (7, .o 2 1), (8, .b b), (13, .p 3 35 []), (58, .v 25 l), (59, .i .i64 n), (60, .i .i64 i)], (.n (some (.box 81 (.g 81 [.m 1]) false)) (.n (some (.vm 38 43 es)) (.n (some (.box 35 (.v 35 d) false)) .e .e) .e) (.n (some (.row 45 1 xs nl false)) .e .e)), [1, 0], 4, some []⟩ => some (.m es h b xs nl d l n i)
  | _ => none
theorem extAo_ok (τ : Vm.St) (x : PAo) (h : extAo τ = some x) : τ = tmAo x := by
  unfold extAo at h
  split at h <;> first | (cases h; rfl) | cases h
theorem stepAo (R : Type) (of : Nat → Option Ob) (x : PAo) (K : Vm.St → Option R) (kx : Exit → Vm.St → Option R) : execC T K30 (fun _ => none) false FU (ntOf Tryz.prog 16) of R (lp (codeOf Tryz.prog 16) 1) (tmAo x) (sortN 2 [999999, 0, 2, 7, 8, 13, 58, 59, 60] 128 K kx) = BAo R x (fun x' => K (tmAo x')) (ekAo R kx) := by
  cases x with
  | m _ _ _ _ _ _ _ _ _ => kernel_rfl
noncomputable def HAo : LS := loopH T K30 (fun _ => none) (ntOf Tryz.prog 16) (lp (codeOf Tryz.prog 16) 1) 2 [999999, 0, 2, 7, 8, 13, 58, 59, 60] 128 extAo BAo ekAo
theorem HAo_ok : LoopTk Tryz.prog T (ntOf Tryz.prog 16) 2 (lp (codeOf Tryz.prog 16) 1) HAo :=
  loopH_ok follows T_ok hK30 hS30 loNat_none (loopsOK_none _) tmAo extAo_ok stepAo
noncomputable def LoAp : Nat → LC := atN 2 [(4, HAi), (13, HAo)]
theorem LoAp_ok : LoopsC Tryz.prog T 16 LoAp := loopsC_at 2 (List.forall_mem_cons.2 ⟨HAi_ok.1, List.forall_mem_cons.2 ⟨HAo_ok.1, fun _ h => by cases h⟩⟩) 2 (by kernel_rfl) ⟨⟨trivial, loI (s0 := HAi) (by kernel_rfl) HAi_ok⟩, loI (s0 := HAo) (by kernel_rfl) HAo_ok⟩
noncomputable def tab31 : List (Nat × SymC) := (11, trS (runPC Tryz.prog T K30 LoNw false FU 11)) :: tab30
theorem tab31_ok : TabOK Tryz.prog T tab31 := tab30_ok.cons (trS_nat (runPC_nat hK30 LoNw_ok.nat)) (trS_ok (runPC_nat hK30 LoNw_ok.nat) (runPC_ok follows T_ok hK30 hS30 LoNw_ok.nat LoNw_ok.ok).at_)
noncomputable def tab32 : List (Nat × SymC) := (15, trS (runPC Tryz.prog T K30 LoFe false FU 15)) :: tab31
theorem tab32_ok : TabOK Tryz.prog T tab32 := tab31_ok.cons (trS_nat (runPC_nat hK30 LoFe_ok.nat)) (trS_ok (runPC_nat hK30 LoFe_ok.nat) (runPC_ok follows T_ok hK30 hS30 LoFe_ok.nat LoFe_ok.ok).at_)
noncomputable def tab33 : List (Nat × SymC) := (16, trS (runPC Tryz.prog T K30 LoAp false FU 16)) :: tab32
theorem tab33_ok : TabOK Tryz.prog T tab33 := tab32_ok.cons (trS_nat (runPC_nat hK30 LoAp_ok.nat)) (trS_ok (runPC_nat hK30 LoAp_ok.nat) (runPC_ok follows T_ok hK30 hS30 LoAp_ok.nat LoAp_ok.ok).at_)
noncomputable def tab34 : List (Nat × SymC) := (13, ofSym (sumK 43)) :: tab33
theorem tab34_ok : TabOK Tryz.prog T tab34 := tab33_ok.cons (ofSym_nat _) (by rw [ofSym_dir]; exact sumK_ok totals (by kernel_rfl) totalEnters)
noncomputable def K34 : KC := runAC Tryz.prog T tab34 false FU 4
theorem hK34 : K34.nat := runAC_nat tab34_ok 4
theorem hS34 : KOK Tryz.prog T K34.dir := runAC_ok follows T_ok tab34_ok 4
end Go.Proofs.YteoeonfajlnggaaGreat
end

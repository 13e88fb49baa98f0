/- What functions compute, and the law run. -/
import Derived.Test.YtoodhpoicinomaaGreatTy
import Derived.Test.YtoodhpoicinomaaGreatVm11
import Derived.Test.YtoodhpoicinomaaGreatVm13
import Derived.Test.YtoodhpoicinomaaGreatVm14
import Derived.Test.YtoodhpoicinomaaGreatVm12
import Derived.Shelf.SlIter.Sorted
import Derived.Shelf.SortM.Plain
import Derived.Shelf.SortM.SortNone
import Derived.LoopTactic
import Derived.MapKept
import Derived.Shelf.Abstract
set_option linter.constructorNameAsVariable false
set_option linter.unusedVariables false
set_option linter.unusedSimpArgs false
noncomputable section
namespace Go.Proofs.YtoodhpoicinomaaGreat
open Go.Vm
set_option maxRecDepth 100000
set_option linter.unusedVariables false
noncomputable def tab1 : List (Nat × SymC) := []
theorem tab1_ok : TabOK Tryz.prog T tab1 := tabOK_nil
noncomputable def K1 : KC := runAC Tryz.prog T tab1 false FU 4
theorem hK1 : K1.nat := runAC_nat tab1_ok 4
theorem hS1 : KOK Tryz.prog T K1.dir := runAC_ok follows T_ok tab1_ok 4
noncomputable def tmSpA : PSpA → Vm.St
  | .m x z i w => ⟨[(0, .v 37 x), (2, .p 0 183 []), (3, .p 1 183 []), (8, .i .i64 i)], (.n (some (.box 183 (.v 183 z) false)) (.n (some (.box 183 (.v 183 w) false)) .e .e) .e), [], 2, some []⟩
noncomputable def ekSpA (R : Type) (kx : Exit → Vm.St → Option R) : QSpA → Option R
  | .o x z i w => kx (.exit 0) ⟨[(0, .v 37 x), (2, .p 0 183 []), (3, .p 1 183 []), (8, .i .i64 i)], (.n (some (.box 183 (.v 183 z) false)) (.n (some (.box 183 (.v 183 w) false)) .e .e) .e), [], 16, some []⟩
noncomputable def extSpA : Vm.St → Option PSpA
  | ⟨[(0, .v 37 x), (2, .p 0 183 []), (3, .p 1 183 []), (8, .i .i64 i)], (.n (some (.box 183 (.v 183 z) false)) (.n (some (.box 183 (.v 183 w) false)) .e .e) .e), [], 2, some []⟩ => some (.m x z i w)
  | _ => none
theorem extSpA_ok (τ : Vm.St) (x : PSpA) (h : extSpA τ = some x) : τ = tmSpA x := by
  unfold extSpA at h
  split at h <;> first | (cases h; rfl) | cases h
theorem stepSpA (R : Type) (of : Nat → Option Ob) (x : PSpA) (K : Vm.St → Option R) (kx : Exit → Vm.St → Option R) : execC T K1 (fun _ => none) false FU (ntOf Tryz.prog 119) of R (lp (codeOf Tryz.prog 119) 0) (tmSpA x) (sortN 0 [0, 2, 3, 8] 16 K kx) = BSpA R x (fun x' => K (tmSpA x')) (ekSpA R kx) := by
  cases x with
  | m _ _ _ _ => kernel_rfl
noncomputable def HSpA : LS := loopH T K1 (fun _ => none) (ntOf Tryz.prog 119) (lp (codeOf Tryz.prog 119) 0) 0 [0, 2, 3, 8] 16 extSpA BSpA ekSpA
theorem HSpA_ok : LoopTk Tryz.prog T (ntOf Tryz.prog 119) 0 (lp (codeOf Tryz.prog 119) 0) HSpA :=
  loopH_ok follows T_ok hK1 hS1 loNat_none (loopsOK_none _) tmSpA extSpA_ok stepSpA
noncomputable def tmSpB : PSpB → Vm.St
  | .m z i w => ⟨[(2, .p 0 183 []), (3, .p 1 183 []), (5, .i .i64 i)], (.n (some (.box 183 (.v 183 z) false)) (.n (some (.box 183 (.v 183 w) false)) .e .e) .e), [], 2, some []⟩
noncomputable def ekSpB (R : Type) (kx : Exit → Vm.St → Option R) : QSpB → Option R
  | .o z i w => kx (.exit 2) ⟨[(2, .p 0 183 []), (3, .p 1 183 []), (5, .i .i64 i)], (.n (some (.box 183 (.v 183 z) false)) (.n (some (.box 183 (.v 183 w) false)) .e .e) .e), [], 16, some []⟩
noncomputable def extSpB : Vm.St → Option PSpB
  | ⟨[(2, .p 0 183 []), (3, .p 1 183 []), (5, .i .i64 i)], (.n (some (.box 183 (.v 183 z) false)) (.n (some (.box 183 (.v 183 w) false)) .e .e) .e), [], 2, some []⟩ => some (.m z i w)
  | _ => none
theorem extSpB_ok (τ : Vm.St) (x : PSpB) (h : extSpB τ = some x) : τ = tmSpB x := by
  unfold extSpB at h
  split at h <;> first | (cases h; rfl) | cases h
theorem stepSpB (R : Type) (of : Nat → Option Ob) (x : PSpB) (K : Vm.St → Option R) (kx : Exit → Vm.St → Option R) : execC T K1 (fun _ => none) false FU (ntOf Tryz.prog 119) of R (lp (codeOf Tryz.prog 119) 1) (tmSpB x) (sortN 0 [2, 3, 5] 16 K kx) = BSpB R x (fun x' => K (tmSpB x')) (ekSpB R kx) := by
  cases x with
  | m _ _ _ => kernel_rfl
noncomputable def HSpB : LS := loopH T K1 (fun _ => none) (ntOf Tryz.prog 119) (lp (codeOf Tryz.prog 119) 1) 0 [2, 3, 5] 16 extSpB BSpB ekSpB
theorem HSpB_ok : LoopTk Tryz.prog T (ntOf Tryz.prog 119) 0 (lp (codeOf Tryz.prog 119) 1) HSpB :=
  loopH_ok follows T_ok hK1 hS1 loNat_none (loopsOK_none _) tmSpB extSpB_ok stepSpB
noncomputable def LoSp : Nat → LC := atN 0 [(3, HSpA), (8, HSpB)]
theorem LoSp_ok : LoopsC Tryz.prog T 119 LoSp := loopsC_at 0 (List.forall_mem_cons.2 ⟨HSpA_ok.1, List.forall_mem_cons.2 ⟨HSpB_ok.1, fun _ h => by cases h⟩⟩) 2 (by kernel_rfl) ⟨⟨trivial, loI (s0 := HSpA) (by kernel_rfl) HSpA_ok⟩, loI (s0 := HSpB) (by kernel_rfl) HSpB_ok⟩
noncomputable def Gsp : FC := fun R xs k => match xs with
  | [x] => lpC (BSpA R) (hid FU) (.m x z64 0 z64) (fun | .o _ z _ w => lpC (BSpB R) (hid FU) (.m z 16 w) (fun | .o _ _ w => k [.d 183 w]))
  | _ => none
theorem run_sp (R : Type) (x : V) (k : List Rs → Option R) : runFC Tryz.prog T K1 LoSp false FU 119 R (mkAs T [37] [x]) (fun _ => none) 0 (fun out => ob (resC T false [.d 183] out) k) = Gsp R [x] k := by kernel_rfl
noncomputable def tab2 : List (Nat × SymC) := (119, pureS T false [37] (Fsp 183)) :: tab1
theorem tab2_ok : TabOK Tryz.prog T tab2 := by
  refine pure_run (sh := false) (rk := [.d 183]) (d := 4) (fu := FU) (Lo := LoSp) (G := Gsp) follows T_ok tab1_ok (Fsp_nat 183) (by kernel_rfl) LoSp_ok (fun R xs k htv => ?_) (fun xs rs htv hrs => ?_)
  · match xs, htv.len with
    | [x], _ => exact run_sp R x k
  · match xs, htv, htv.len with
    | [x], htv, _ =>
      obtain ⟨e, cs, hx⟩ := htv.head
      obtain ⟨bs, h1, h2⟩ := tv_slice (T := T) (el := 5) (kd := .u8) (by kernel_rfl) (by kernel_rfl) rfl hx
      simp only [Fsp] at hrs
      cases hl : Nat.ble 64 x.els.length with
      | false => rw [hl] at hrs; cases hrs
      | true =>
        rw [hl] at hrs
        have hl := Nat.le_of_ble_eq_true hl
        rw [h1, List.length_map] at hl
        exact (spread_law h1 (lt256 h2) hl HID (fun w => some [Rs.d 183 w])).trans hrs
noncomputable def K2 : KC := runAC Tryz.prog T tab2 false FU 4
theorem hK2 : K2.nat := runAC_nat tab2_ok 4
theorem hS2 : KOK Tryz.prog T K2.dir := runAC_ok follows T_ok tab2_ok 4
noncomputable def tmMxA : PMxA → Vm.St
  | .m s z w k x i => ⟨[(2, .p 0 172 []), (4, .p 1 172 []), (5, .p 3 183 []), (6, .p 4 183 []), (7, .p 5 172 []), (18, .i .i64 i)], (.n (some (.box 172 (.v 172 s) false)) (.n (some (.box 172 (.v 172 z) false)) (.n (some (.box 183 (.v 183 w) false)) .e .e) (.n (some (.box 172 (.v 172 x) false)) .e .e)) (.n none (.n (some (.box 183 (.v 183 k) false)) .e .e) .e)), [], 6, some []⟩
noncomputable def ekMxA (R : Type) (kx : Exit → Vm.St → Option R) : QMxA → Option R
  | .o s z w k x i => kx (.exit 0) ⟨[(2, .p 0 172 []), (4, .p 1 172 []), (5, .p 3 183 []), (6, .p 4 183 []), (7, .p 5 172 []), (18, .i .i64 i)], (.n (some (.box 172 (.v 172 s) false)) (.n (some (.box 172 (.v 172 z) false)) (.n (some (.box 183 (.v 183 w) false)) .e .e) (.n (some (.box 172 (.v 172 x) false)) .e .e)) (.n none (.n (some (.box 183 (.v 183 k) false)) .e .e) .e)), [], 16, some []⟩
noncomputable def extMxA : Vm.St → Option PMxA
  | ⟨[(2, .p 0 172 []), (4, .p 1 172 []), (5, .p 3 183 []), (6, .p 4 183 []), (7, .p 5 172 []), (18, .i .i64 i)], (.n (some (.box 172 (.v 172 s) false)) (.n (some (.box 172 (.v 172 z) false)) (.n (some (.box 183 (.v 183 w) false)) .e .e) (.n (some (.box 172 (.v 172 x) false)) .e .e)) (.n none (.n (some (.box 183 (.v 183 k) false)) .e .e) .e)), [], 6, some []⟩ => some (.m s z w k x i)
  | _ => none
theorem extMxA_ok (τ : Vm.St) (x : PMxA) (h : extMxA τ = some x) : τ = tmMxA x := by
  unfold extMxA at h
  split at h <;> first | (cases h; rfl) | cases h
theorem stepMxA (R : Type) (of : Nat → Option Ob) (x : PMxA) (K : Vm.St → Option R) (kx : Exit → Vm.St → Option R) : execC T K2 (fun _ => none) false FU (ntOf Tryz.prog 112) of R (lp (codeOf Tryz.prog 112) 0) (tmMxA x) (sortN 0 [2, 4, 5, 6, 7, 18] 16 K kx) = BMxA R x (fun x' => K (tmMxA x')) (ekMxA R kx) := by
  cases x with
  | m _ _ _ _ _ _ => kernel_rfl
noncomputable def HMxA : LS := loopH T K2 (fun _ => none) (ntOf Tryz.prog 112) (lp (codeOf Tryz.prog 112) 0) 0 [2, 4, 5, 6, 7, 18] 16 extMxA BMxA ekMxA
theorem HMxA_ok : LoopTk Tryz.prog T (ntOf Tryz.prog 112) 0 (lp (codeOf Tryz.prog 112) 0) HMxA :=
  loopH_ok follows T_ok hK2 hS2 loNat_none (loopsOK_none _) tmMxA extMxA_ok stepMxA
noncomputable def tmMxB : PMxB → Vm.St
  | .m s z x i => ⟨[(2, .p 0 172 []), (4, .p 1 172 []), (7, .p 5 172 []), (98, .i .i64 i)], (.n (some (.box 172 (.v 172 s) false)) (.n (some (.box 172 (.v 172 z) false)) .e (.n (some (.box 172 (.v 172 x) false)) .e .e)) .e), [], 6, some []⟩
noncomputable def ekMxB (R : Type) (kx : Exit → Vm.St → Option R) : QMxB → Option R
  | .o s z x i => kx (.exit 2) ⟨[(2, .p 0 172 []), (4, .p 1 172 []), (7, .p 5 172 []), (98, .i .i64 i)], (.n (some (.box 172 (.v 172 s) false)) (.n (some (.box 172 (.v 172 z) false)) .e (.n (some (.box 172 (.v 172 x) false)) .e .e)) .e), [], 16, some []⟩
noncomputable def extMxB : Vm.St → Option PMxB
  | ⟨[(2, .p 0 172 []), (4, .p 1 172 []), (7, .p 5 172 []), (98, .i .i64 i)], (.n (some (.box 172 (.v 172 s) false)) (.n (some (.box 172 (.v 172 z) false)) .e (.n (some (.box 172 (.v 172 x) false)) .e .e)) .e), [], 6, some []⟩ => some (.m s z x i)
  | _ => none
theorem extMxB_ok (τ : Vm.St) (x : PMxB) (h : extMxB τ = some x) : τ = tmMxB x := by
  unfold extMxB at h
  split at h <;> first | (cases h; rfl) | cases h
theorem stepMxB (R : Type) (of : Nat → Option Ob) (x : PMxB) (K : Vm.St → Option R) (kx : Exit → Vm.St → Option R) : execC T K2 (fun _ => none) false FU (ntOf Tryz.prog 112) of R (lp (codeOf Tryz.prog 112) 1) (tmMxB x) (sortN 0 [2, 4, 7, 98] 16 K kx) = BMxB R x (fun x' => K (tmMxB x')) (ekMxB R kx) := by
  cases x with
  | m _ _ _ _ => kernel_rfl
noncomputable def HMxB : LS := loopH T K2 (fun _ => none) (ntOf Tryz.prog 112) (lp (codeOf Tryz.prog 112) 1) 0 [2, 4, 7, 98] 16 extMxB BMxB ekMxB
theorem HMxB_ok : LoopTk Tryz.prog T (ntOf Tryz.prog 112) 0 (lp (codeOf Tryz.prog 112) 1) HMxB :=
  loopH_ok follows T_ok hK2 hS2 loNat_none (loopsOK_none _) tmMxB extMxB_ok stepMxB
noncomputable def LoMx : Nat → LC := atN 0 [(3, HMxA), (11, HMxB)]
theorem LoMx_ok : LoopsC Tryz.prog T 112 LoMx := loopsC_at 0 (List.forall_mem_cons.2 ⟨HMxA_ok.1, List.forall_mem_cons.2 ⟨HMxB_ok.1, fun _ h => by cases h⟩⟩) 2 (by kernel_rfl) ⟨⟨trivial, loI (s0 := HMxA) (by kernel_rfl) HMxA_ok⟩, loI (s0 := HMxB) (by kernel_rfl) HMxB_ok⟩
noncomputable def Gmx : FC := fun R xs k => match xs with
  | [s, b] => bif Nat.ble 64 b.els.length then lpC (BMxA R) (hid FU) (.m s z8 (spW b) keysV s 0) (fun | .o s z _ _ x _ => lpC (BMxB R) (hid FU) (.m s z x 0) (fun | .o s _ _ _ => k [.d 172 s])) else none
  | _ => none
theorem run_mx (R : Type) (s b : V) (k : List Rs → Option R) : runFC Tryz.prog T K2 LoMx false FU 112 R (mkAs T [172, 37] [s, b]) (fun _ => none) 0 (fun out => ob (resC T false [.d 172] out) k) = Gmx R [s, b] k := by kernel_rfl
noncomputable def tab3 : List (Nat × SymC) := (112, pureS T false [172, 37] (Fmx 172)) :: tab2
theorem tab3_ok : TabOK Tryz.prog T tab3 := by
  refine pure_run (sh := false) (rk := [.d 172]) (d := 4) (fu := FU) (Lo := LoMx) (G := Gmx) follows T_ok tab2_ok (Fmx_nat 172) (by kernel_rfl) LoMx_ok (fun R xs k htv => ?_) (fun xs rs htv hrs => ?_)
  · match xs, htv.len with
    | [s, b], _ => exact run_mx R s b k
  · match xs, htv, htv.len with
    | [s, b], htv, _ =>
      obtain ⟨e, cs, hs⟩ := htv.head
      obtain ⟨e2, cs2, hx⟩ := htv.tail.head
      obtain ⟨bs, h1, h2⟩ := tv_slice (T := T) (el := 5) (kd := .u8) (by kernel_rfl) (by kernel_rfl) rfl hx
      obtain ⟨ns, rfl, n1, n2⟩ := tv_arr (T := T) (n := 8) (el := 23) (kd := .u32) (by kernel_rfl) (by kernel_rfl) rfl hs
      obtain ⟨s8, hs8, hok⟩ := stV_of n1 n2
      rw [hs8] at hrs ⊢
      simp only [Fmx] at hrs
      cases hl : Nat.ble 64 b.els.length with
      | false => rw [hl] at hrs; cases hrs
      | true =>
        rw [hl] at hrs
        simp only [Gmx, hl, cond_true]
        have hl := Nat.le_of_ble_eq_true hl
        rw [h1, List.length_map] at hl
        exact (mix_law hok h1 (lt256 h2) hl HID (fun w => some [Rs.d 172 w])).trans hrs
noncomputable def K3 : KC := runAC Tryz.prog T tab3 false FU 4
theorem hK3 : K3.nat := runAC_nat tab3_ok 4
theorem hS3 : KOK Tryz.prog T K3.dir := runAC_ok follows T_ok tab3_ok 4
end Go.Proofs.YtoodhpoicinomaaGreat

namespace Go.Proofs.YtoodhpoicinomaaGreat
open Go.Vm
set_option maxRecDepth 100000
set_option linter.unusedVariables false
noncomputable def tmPdA : PPdA → Vm.St
  | .m b xs => ⟨[(0, .v 37 b), (3, .o 1 1)], (.n none (.n (some (.row 5 1 xs false false)) .e .e) .e), [], 2, some []⟩
noncomputable def ekPdA (R : Type) (kx : Exit → Vm.St → Option R) : QPdA → Option R
  | .o b xs => kx (.exit 0) ⟨[(0, .v 37 b), (3, .o 1 1)], (.n none (.n (some (.row 5 1 xs false false)) .e .e) .e), [], 8, some []⟩
noncomputable def extPdA : Vm.St → Option PPdA
  | ⟨[(0, .v 37 b), (3, .o 1 1)], (.n none (.n (some (.row 5 1 xs false false)) .e .e) .e), [], 2, some []⟩ => some (.m b xs)
  | _ => none
theorem extPdA_ok (τ : Vm.St) (x : PPdA) (h : extPdA τ = some x) : τ = tmPdA x := by
  unfold extPdA at h
  split at h <;> first | (cases h; rfl) | cases h
theorem stepPdA (R : Type) (of : Nat → Option Ob) (x : PPdA) (K : Vm.St → Option R) (kx : Exit → Vm.St → Option R) : execC T K3 (fun _ => none) false FU (ntOf Tryz.prog 87) of R (lp (codeOf Tryz.prog 87) 0) (tmPdA x) (sortN 0 [0, 3] 8 K kx) = BPdA R x (fun x' => K (tmPdA x')) (ekPdA R kx) := by
  cases x with
  | m _ _ => kernel_rfl
noncomputable def HPdA : LS := loopH T K3 (fun _ => none) (ntOf Tryz.prog 87) (lp (codeOf Tryz.prog 87) 0) 0 [0, 3] 8 extPdA BPdA ekPdA
theorem HPdA_ok : LoopTk Tryz.prog T (ntOf Tryz.prog 87) 0 (lp (codeOf Tryz.prog 87) 0) HPdA :=
  loopH_ok follows T_ok hK3 hS3 loNat_none (loopsOK_none _) tmPdA extPdA_ok stepPdA
noncomputable def LoPd : Nat → LC := atN 0 [(2, HPdA)]
theorem LoPd_ok : LoopsC Tryz.prog T 87 LoPd := loopsC_at 0 (List.forall_mem_cons.2 ⟨HPdA_ok.1, fun _ h => by cases h⟩) 2 (by kernel_rfl) ⟨⟨trivial, loI (s0 := HPdA) (by kernel_rfl) HPdA_ok⟩, loN (by kernel_rfl)⟩

theorem run_pd (R : Type) (b : V) (k : List Rs → Option R) : runFC Tryz.prog T K3 LoPd false FU 87 R (mkAs T [37] [b]) (fun _ => none) 0 (fun out => ob (resC T false [.r 5] out) k) = Gpd 5 R [b] k := by kernel_rfl
noncomputable def tab4 : List (Nat × SymC) := (87, pureS T false [37] (Fpd 5)) :: tab3
theorem tab4_ok : TabOK Tryz.prog T tab4 := by
  refine pure_run (sh := false) (rk := [.r 5]) (d := 4) (fu := FU) (Lo := LoPd) (G := Gpd 5) follows T_ok tab3_ok (Fpd_nat 5) (by kernel_rfl) LoPd_ok (fun R xs k htv => ?_) (fun xs rs htv hrs => ?_)
  · match xs, htv.len with
    | [b], _ => exact run_pd R b k
  · match xs, htv.len with
    | [b], _ => exact pd_law 5 hrs
noncomputable def K4 : KC := runAC Tryz.prog T tab4 false FU 4
theorem hK4 : K4.nat := runAC_nat tab4_ok 4
theorem hS4 : KOK Tryz.prog T K4.dir := runAC_ok follows T_ok tab4_ok 4
noncomputable def tmSmA : PSmA → Vm.St
  | .m z v xs kk at_ ws i => ⟨[(2, .p 0 34 []), (3, .p 1 146 []), (4, .o 2 1), (5, .p 4 147 []), (6, .i .i64 at_), (7, .o 5 1), (8, .i .i64 i)], (.n (some (.box 34 (.v 34 z) false)) (.n (some (.box 146 (.v 146 v) false)) .e (.n (some (.row 133 1 ws false false)) .e .e)) (.n (some (.row 5 1 xs false false)) (.n (some (.box 147 (.v 147 kk) false)) .e .e) .e)), [], 6, some []⟩
noncomputable def ekSmA (R : Type) (kx : Exit → Vm.St → Option R) : QSmA → Option R
  | .o z v xs kk at_ ws i => kx (.exit 2) ⟨[(2, .p 0 34 []), (3, .p 1 146 []), (4, .o 2 1), (5, .p 4 147 []), (6, .i .i64 at_), (7, .o 5 1), (8, .i .i64 i)], (.n (some (.box 34 (.v 34 z) false)) (.n (some (.box 146 (.v 146 v) false)) .e (.n (some (.row 133 1 ws false false)) .e .e)) (.n (some (.row 5 1 xs false false)) (.n (some (.box 147 (.v 147 kk) false)) .e .e) .e)), [], 16, some []⟩
noncomputable def extSmA : Vm.St → Option PSmA
  | ⟨[(2, .p 0 34 []), (3, .p 1 146 []), (4, .o 2 1), (5, .p 4 147 []), (6, .i .i64 at_), (7, .o 5 1), (8, .i .i64 i)], (.n (some (.box 34 (.v 34 z) false)) (.n (some (.box 146 (.v 146 v) false)) .e (.n (some (.row 133 1 ws false false)) .e .e)) (.n (some (.row 5 1 xs false false)) (.n (some (.box 147 (.v 147 kk) false)) .e .e) .e)), [], 6, some []⟩ => some (.m z v xs kk at_ ws i)
  | _ => none
theorem extSmA_ok (τ : Vm.St) (x : PSmA) (h : extSmA τ = some x) : τ = tmSmA x := by
  unfold extSmA at h
  split at h <;> first | (cases h; rfl) | cases h
theorem stepSmA (R : Type) (of : Nat → Option Ob) (x : PSmA) (K : Vm.St → Option R) (kx : Exit → Vm.St → Option R) : execC T K4 (fun _ => none) false FU (ntOf Tryz.prog 67) of R (lp (codeOf Tryz.prog 67) 1) (tmSmA x) (sortN 0 [2, 3, 4, 5, 6, 7, 8] 16 K kx) = BSmA R x (fun x' => K (tmSmA x')) (ekSmA R kx) := by
  cases x with
  | m _ _ _ _ _ _ _ => kernel_rfl
noncomputable def HSmA : LS := loopH T K4 (fun _ => none) (ntOf Tryz.prog 67) (lp (codeOf Tryz.prog 67) 1) 0 [2, 3, 4, 5, 6, 7, 8] 16 extSmA BSmA ekSmA
theorem HSmA_ok : LoopTk Tryz.prog T (ntOf Tryz.prog 67) 0 (lp (codeOf Tryz.prog 67) 1) HSmA :=
  loopH_ok follows T_ok hK4 hS4 loNat_none (loopsOK_none _) tmSmA extSmA_ok stepSmA
noncomputable def tmSmB : PSmB → Vm.St
  | .m z v xs kk at_ ws x i => ⟨[(2, .p 0 34 []), (3, .p 1 146 []), (4, .o 2 1), (5, .p 4 147 []), (6, .i .i64 at_), (7, .o 5 1), (13, .p 16 146 []), (14, .i .i64 i)], (.n (some (.box 34 (.v 34 z) false)) (.n (some (.box 146 (.v 146 v) false)) .e (.n (some (.row 133 1 ws false false)) .e .e)) (.n (some (.row 5 1 xs false false)) (.n (some (.box 147 (.v 147 kk) false)) (.n none (.n (some (.box 146 (.v 146 x) false)) .e .e) .e) .e) .e)), [], 17, some []⟩
noncomputable def ekSmB (R : Type) (kx : Exit → Vm.St → Option R) : QSmB → Option R
  | .o z v xs kk at_ ws x i => kx (.exit 6) ⟨[(2, .p 0 34 []), (3, .p 1 146 []), (4, .o 2 1), (5, .p 4 147 []), (6, .i .i64 at_), (7, .o 5 1), (13, .p 16 146 []), (14, .i .i64 i)], (.n (some (.box 34 (.v 34 z) false)) (.n (some (.box 146 (.v 146 v) false)) .e (.n (some (.row 133 1 ws false false)) .e .e)) (.n (some (.row 5 1 xs false false)) (.n (some (.box 147 (.v 147 kk) false)) (.n none (.n (some (.box 146 (.v 146 x) false)) .e .e) .e) .e) .e)), [], 32, some []⟩
noncomputable def extSmB : Vm.St → Option PSmB
  | ⟨[(2, .p 0 34 []), (3, .p 1 146 []), (4, .o 2 1), (5, .p 4 147 []), (6, .i .i64 at_), (7, .o 5 1), (13, .p 16 146 []), (14, .i .i64 i)], (.n (some (.box 34 (.v 34 z) false)) (.n (some (.box 146 (.v 146 v) false)) .e (.n (some (.row 133 1 ws false false)) .e .e)) (.n (some (.row 5 1 xs false false)) (.n (some (.box 147 (.v 147 kk) false)) (.n none (.n (some (.box 146 (.v 146 x) false)) .e .e) .e) .e) .e)), [], 17, some []⟩ => some (.m z v xs kk at_ ws x i)
  | _ => none
theorem extSmB_ok (τ : Vm.St) (x : PSmB) (h : extSmB τ = some x) : τ = tmSmB x := by
  unfold extSmB at h
  split at h <;> first | (cases h; rfl) | cases h
theorem stepSmB (R : Type) (of : Nat → Option Ob) (x : PSmB) (K : Vm.St → Option R) (kx : Exit → Vm.St → Option R) : execC T K4 (fun _ => none) false FU (ntOf Tryz.prog 67) of R (lp (codeOf Tryz.prog 67) 3) (tmSmB x) (sortN 0 [2, 3, 4, 5, 6, 7, 13, 14] 32 K kx) = BSmB R x (fun x' => K (tmSmB x')) (ekSmB R kx) := by
  cases x with
  | m _ _ _ _ _ _ _ _ => kernel_rfl
noncomputable def HSmB : LS := loopH T K4 (fun _ => none) (ntOf Tryz.prog 67) (lp (codeOf Tryz.prog 67) 3) 0 [2, 3, 4, 5, 6, 7, 13, 14] 32 extSmB BSmB ekSmB
theorem HSmB_ok : LoopTk Tryz.prog T (ntOf Tryz.prog 67) 0 (lp (codeOf Tryz.prog 67) 3) HSmB :=
  loopH_ok follows T_ok hK4 hS4 loNat_none (loopsOK_none _) tmSmB extSmB_ok stepSmB
noncomputable def tmSmO : PSmO → Vm.St
  | .m z v xs kk at_ => ⟨[(2, .p 0 34 []), (3, .p 1 146 []), (4, .o 2 1), (5, .p 4 147 []), (6, .i .i64 at_)], (.n (some (.box 34 (.v 34 z) false)) (.n (some (.box 146 (.v 146 v) false)) .e .e) (.n (some (.row 5 1 xs false false)) (.n (some (.box 147 (.v 147 kk) false)) .e .e) .e)), [], 5, some []⟩
noncomputable def ekSmO (R : Type) (kx : Exit → Vm.St → Option R) : QSmO → Option R
  | .o z v xs kk at_ => kx (.exit 0) ⟨[(2, .p 0 34 []), (3, .p 1 146 []), (4, .o 2 1), (5, .p 4 147 []), (6, .i .i64 at_)], (.n (some (.box 34 (.v 34 z) false)) (.n (some (.box 146 (.v 146 v) false)) .e .e) (.n (some (.row 5 1 xs false false)) (.n (some (.box 147 (.v 147 kk) false)) .e .e) .e)), [], 64, some []⟩
noncomputable def extSmO : Vm.St → Option PSmO
  | ⟨[(2, .p 0 34 []), (3, .p 1 146 []), (4, .o 2 1), (5, .p 4 147 []), (6, .i .i64 at_)], (.n (some (.box 34 (.v 34 z) false)) (.n (some (.box 146 (.v 146 v) false)) .e .e) (.n (some (.row 5 1 xs false false)) (.n (some (.box 147 (.v 147 kk) false)) .e .e) .e)), [], 5, some []⟩ => some (.m z v xs kk at_)
  | _ => none
theorem extSmO_ok (τ : Vm.St) (x : PSmO) (h : extSmO τ = some x) : τ = tmSmO x := by
  unfold extSmO at h
  split at h <;> first | (cases h; rfl) | cases h
theorem stepSmO (R : Type) (of : Nat → Option Ob) (x : PSmO) (K : Vm.St → Option R) (kx : Exit → Vm.St → Option R) : execC T K4 (loT [(9, HSmA), (23, HSmB)]) false FU (ntOf Tryz.prog 67) of R (lp (codeOf Tryz.prog 67) 0) (tmSmO x) (sortN 0 [2, 3, 4, 5, 6] 64 K kx) = BSmO R x (fun x' => K (tmSmO x')) (ekSmO R kx) := by
  cases x with
  | m _ _ _ _ _ => kernel_rfl
noncomputable def HSmO : LS := loopH T K4 (loT [(9, HSmA), (23, HSmB)]) (ntOf Tryz.prog 67) (lp (codeOf Tryz.prog 67) 0) 0 [2, 3, 4, 5, 6] 64 extSmO BSmO ekSmO
theorem HSmO_ok : LoopTk Tryz.prog T (ntOf Tryz.prog 67) 0 (lp (codeOf Tryz.prog 67) 0) HSmO :=
  loopH_ok follows T_ok hK4 hS4 (loT_nat (List.forall_mem_cons.2 ⟨HSmA_ok.1, List.forall_mem_cons.2 ⟨HSmB_ok.1, fun _ h => by cases h⟩⟩)) (loopsOK_at 5 (by kernel_rfl) ⟨⟨⟨⟨⟨trivial, loI (s0 := HSmA) (by kernel_rfl) ((show lp (lp (codeOf Tryz.prog 67) 0) 0 = lp (codeOf Tryz.prog 67) 1 from by kernel_rfl) ▸ HSmA_ok)⟩, loN (by kernel_rfl)⟩, loI (s0 := HSmB) (by kernel_rfl) ((show lp (lp (codeOf Tryz.prog 67) 0) 2 = lp (codeOf Tryz.prog 67) 3 from by kernel_rfl) ▸ HSmB_ok)⟩, loN (by kernel_rfl)⟩, loN (by kernel_rfl)⟩) tmSmO extSmO_ok stepSmO
noncomputable def LoSm : Nat → LC := atN 0 [(5, HSmO)]
theorem LoSm_ok : LoopsC Tryz.prog T 67 LoSm := loopsC_at 0 (List.forall_mem_cons.2 ⟨HSmO_ok.1, fun _ h => by cases h⟩) 8 (by kernel_rfl) ⟨⟨⟨⟨⟨⟨⟨⟨trivial, loI (s0 := HSmO) (by kernel_rfl) HSmO_ok⟩, loN (by kernel_rfl)⟩, loN (by kernel_rfl)⟩, loN (by kernel_rfl)⟩, loN (by kernel_rfl)⟩, loN (by kernel_rfl)⟩, loN (by kernel_rfl)⟩, loN (by kernel_rfl)⟩

theorem run_sm (R : Type) (b : V) (k : List Rs → Option R) : runFC Tryz.prog T K4 LoSm false FU 67 R (mkAs T [37] [b]) (fun _ => none) 0 (fun out => ob (resC T false [.d 34] out) k) = Gsm 34 R [b] k := by kernel_rfl
noncomputable def tab5 : List (Nat × SymC) := (67, pureS T false [37] (Fsm 34)) :: tab4
theorem tab5_ok : TabOK Tryz.prog T tab5 := by
  refine pure_run (sh := false) (rk := [.d 34]) (d := 4) (fu := FU) (Lo := LoSm) (G := Gsm 34) follows T_ok tab4_ok (Fsm_nat 34) (by kernel_rfl) LoSm_ok (fun R xs k htv => ?_) (fun xs rs htv hrs => ?_)
  · match xs, htv.len with
    | [b], _ => exact run_sm R b k
  · match xs, htv, htv.len with
    | [b], htv, _ =>
      obtain ⟨e, cs, hx⟩ := htv.head
      obtain ⟨bs, h1, h2⟩ := tv_slice (T := T) (el := 5) (kd := .u8) (by kernel_rfl) (by kernel_rfl) rfl hx
      exact sm_law 34 h1 (lt256 h2) hrs
noncomputable def K5 : KC := runAC Tryz.prog T tab5 false FU 4
theorem hK5 : K5.nat := runAC_nat tab5_ok 4
theorem hS5 : KOK Tryz.prog T K5.dir := runAC_ok follows T_ok tab5_ok 4
end Go.Proofs.YtoodhpoicinomaaGreat

namespace Go.Proofs.YtoodhpoicinomaaGreat
open Go.Vm
set_option maxRecDepth 100000
set_option linter.unusedVariables false
set_option linter.constructorNameAsVariable false
noncomputable def tmRn : PRn → Vm.St
  | .m l n i => ⟨[(2, .b false), (5, .v 22 l), (6, .i .i64 n), (7, .i .i64 i)], .e, [], 0, some []⟩
noncomputable def ekRn (R : Type) (kx : Exit → Vm.St → Option R) : QRn → Option R
  | .o l n i => kx (.exit 0) ⟨[(2, .b false), (5, .v 22 l), (6, .i .i64 n), (7, .i .i64 i)], .e, [], 64, some []⟩
  | .r l n i => kx (.ret) ⟨[(2, .b false), (5, .v 22 l), (6, .i .i64 n), (7, .i .i64 i)], .e, [], 64, some []⟩
noncomputable def extRn : Vm.St → Option PRn
  | ⟨[(2, .b false), (5, .v 22 l), (6, .i .i64 n), (7, .i .i64 i)], .e, [], 0, some []⟩ => some (.m l n i)
  | _ => none
theorem extRn_ok (τ : Vm.St) (x : PRn) (h : extRn τ = some x) : τ = tmRn x := by
  unfold extRn at h
  split at h <;> first | (cases h; rfl) | cases h
theorem stepRn (R : Type) (of : Nat → Option Ob) (x : PRn) (K : Vm.St → Option R) (kx : Exit → Vm.St → Option R) : execC T K5 (fun _ => none) false FU (ntOf Tryz.prog 8) of R (lp (codeOf Tryz.prog 8) 0) (tmRn x) (sortN 0 [999999, 2, 5, 6, 7] 64 K kx) = BRn R x (fun x' => K (tmRn x')) (ekRn R kx) := by
  cases x with
  | m _ _ _ => kernel_rfl
noncomputable def HRn : LS := loopH T K5 (fun _ => none) (ntOf Tryz.prog 8) (lp (codeOf Tryz.prog 8) 0) 0 [999999, 2, 5, 6, 7] 64 extRn BRn ekRn
theorem HRn_ok : LoopTk Tryz.prog T (ntOf Tryz.prog 8) 0 (lp (codeOf Tryz.prog 8) 0) HRn :=
  loopH_ok follows T_ok hK5 hS5 loNat_none (loopsOK_none _) tmRn extRn_ok stepRn
noncomputable def LoRn : Nat → LC := atN 0 [(2, HRn)]
theorem LoRn_ok : LoopsC Tryz.prog T 8 LoRn := loopsC_at 0 (List.forall_mem_cons.2 ⟨HRn_ok.1, fun _ h => by cases h⟩) 1 (by kernel_rfl) ⟨trivial, loI (s0 := HRn) (by kernel_rfl) HRn_ok⟩
theorem run_Rn (l : V) : runFC Tryz.prog T K5 LoRn false FU 8 (List Rs) (mkAs T [22] [l]) (fun _ => none) 0 (fun out => resC T true [.d 4] out) = rnG 4 l := by kernel_rfl
noncomputable def tab6 : List (Nat × SymC) := (8, pureS T true [22] (gF rng (rnr 4))) :: tab5
theorem tab6_ok : TabOK Tryz.prog T tab6 := by
  refine pure_conG (sh := true) (rk := [.d 4]) (d := 4) (fu := FU) (Lo := LoRn) (ds := [.slice DEnt]) follows T_ok tab5_ok (by kernel_rfl) LoRn_ok 40 (by kernel_rfl) (fun xs hd hg => ?_)
  obtain ⟨a, rfl, ha⟩ := hasL1 hd
  exact (run_Rn a).trans (rnG_law hg)
noncomputable def K6 : KC := runAC Tryz.prog T tab6 false FU 4
theorem hK6 : K6.nat := runAC_nat tab6_ok 4
theorem hS6 : KOK Tryz.prog T K6.dir := runAC_ok follows T_ok tab6_ok 4
noncomputable def tmSa : PSa → Vm.St
  | .m a b n i => ⟨[(0, .v 22 a), (1, .v 22 b), (4, .b false), (12, .i .i64 n), (13, .i .i64 i)], .e, [], 0, some []⟩
noncomputable def ekSa (R : Type) (kx : Exit → Vm.St → Option R) : QSa → Option R
  | .o a b n i => kx (.exit 0) ⟨[(0, .v 22 a), (1, .v 22 b), (4, .b false), (12, .i .i64 n), (13, .i .i64 i)], .e, [], 64, some []⟩
  | .r a b n i => kx (.ret) ⟨[(0, .v 22 a), (1, .v 22 b), (4, .b false), (12, .i .i64 n), (13, .i .i64 i)], .e, [], 64, some []⟩
noncomputable def extSa : Vm.St → Option PSa
  | ⟨[(0, .v 22 a), (1, .v 22 b), (4, .b false), (12, .i .i64 n), (13, .i .i64 i)], .e, [], 0, some []⟩ => some (.m a b n i)
  | _ => none
theorem extSa_ok (τ : Vm.St) (x : PSa) (h : extSa τ = some x) : τ = tmSa x := by
  unfold extSa at h
  split at h <;> first | (cases h; rfl) | cases h
theorem stepSa (R : Type) (of : Nat → Option Ob) (x : PSa) (K : Vm.St → Option R) (kx : Exit → Vm.St → Option R) : execC T K6 (fun _ => none) false FU (ntOf Tryz.prog 15) of R (lp (codeOf Tryz.prog 15) 0) (tmSa x) (sortN 0 [999999, 0, 1, 4, 12, 13] 64 K kx) = BSa R x (fun x' => K (tmSa x')) (ekSa R kx) := by
  cases x with
  | m _ _ _ _ => kernel_rfl
noncomputable def HSa : LS := loopH T K6 (fun _ => none) (ntOf Tryz.prog 15) (lp (codeOf Tryz.prog 15) 0) 0 [999999, 0, 1, 4, 12, 13] 64 extSa BSa ekSa
theorem HSa_ok : LoopTk Tryz.prog T (ntOf Tryz.prog 15) 0 (lp (codeOf Tryz.prog 15) 0) HSa :=
  loopH_ok follows T_ok hK6 hS6 loNat_none (loopsOK_none _) tmSa extSa_ok stepSa
noncomputable def LoSa : Nat → LC := atN 0 [(4, HSa)]
theorem LoSa_ok : LoopsC Tryz.prog T 15 LoSa := loopsC_at 0 (List.forall_mem_cons.2 ⟨HSa_ok.1, fun _ h => by cases h⟩) 1 (by kernel_rfl) ⟨trivial, loI (s0 := HSa) (by kernel_rfl) HSa_ok⟩
theorem run_Sa (l m : V) : runFC Tryz.prog T K6 LoSa false FU 15 (List Rs) (mkAs T [22, 22] [l, m]) (fun _ => none) 0 (fun out => resC T true [.d 4] out) = saG 4 l m := by kernel_rfl
noncomputable def tab7 : List (Nat × SymC) := (15, pureS T true [22, 22] (gF sag (sar 4))) :: tab6
theorem tab7_ok : TabOK Tryz.prog T tab7 := by
  refine pure_conG (sh := true) (rk := [.d 4]) (d := 4) (fu := FU) (Lo := LoSa) (ds := [.slice DEnt, .slice DEnt]) follows T_ok tab6_ok (by kernel_rfl) LoSa_ok 40 (by kernel_rfl) (fun xs hd hg => ?_)
  obtain ⟨a, b, rfl, ha, hb⟩ := hasL2 hd
  exact (run_Sa a b).trans (saG_law hg)
noncomputable def K7 : KC := runAC Tryz.prog T tab7 false FU 4
theorem hK7 : K7.nat := runAC_nat tab7_ok 4
theorem hS7 : KOK Tryz.prog T K7.dir := runAC_ok follows T_ok tab7_ok 4
noncomputable def tmSx : PSx → Vm.St
  | .m a b n i => ⟨[(0, .v 74 a), (1, .v 74 b), (4, .b false), (12, .i .i64 n), (13, .i .i64 i)], .e, [], 0, some []⟩
noncomputable def ekSx (R : Type) (kx : Exit → Vm.St → Option R) : QSx → Option R
  | .o a b n i => kx (.exit 0) ⟨[(0, .v 74 a), (1, .v 74 b), (4, .b false), (12, .i .i64 n), (13, .i .i64 i)], .e, [], 64, some []⟩
  | .r a b n i => kx (.ret) ⟨[(0, .v 74 a), (1, .v 74 b), (4, .b false), (12, .i .i64 n), (13, .i .i64 i)], .e, [], 64, some []⟩
noncomputable def extSx : Vm.St → Option PSx
  | ⟨[(0, .v 74 a), (1, .v 74 b), (4, .b false), (12, .i .i64 n), (13, .i .i64 i)], .e, [], 0, some []⟩ => some (.m a b n i)
  | _ => none
theorem extSx_ok (τ : Vm.St) (x : PSx) (h : extSx τ = some x) : τ = tmSx x := by
  unfold extSx at h
  split at h <;> first | (cases h; rfl) | cases h
theorem stepSx (R : Type) (of : Nat → Option Ob) (x : PSx) (K : Vm.St → Option R) (kx : Exit → Vm.St → Option R) : execC T K7 (fun _ => none) false FU (ntOf Tryz.prog 24) of R (lp (codeOf Tryz.prog 24) 0) (tmSx x) (sortN 0 [999999, 0, 1, 4, 12, 13] 64 K kx) = BSx R x (fun x' => K (tmSx x')) (ekSx R kx) := by
  cases x with
  | m _ _ _ _ => kernel_rfl
noncomputable def HSx : LS := loopH T K7 (fun _ => none) (ntOf Tryz.prog 24) (lp (codeOf Tryz.prog 24) 0) 0 [999999, 0, 1, 4, 12, 13] 64 extSx BSx ekSx
theorem HSx_ok : LoopTk Tryz.prog T (ntOf Tryz.prog 24) 0 (lp (codeOf Tryz.prog 24) 0) HSx :=
  loopH_ok follows T_ok hK7 hS7 loNat_none (loopsOK_none _) tmSx extSx_ok stepSx
noncomputable def LoSx : Nat → LC := atN 0 [(4, HSx)]
theorem LoSx_ok : LoopsC Tryz.prog T 24 LoSx := loopsC_at 0 (List.forall_mem_cons.2 ⟨HSx_ok.1, fun _ h => by cases h⟩) 1 (by kernel_rfl) ⟨trivial, loI (s0 := HSx) (by kernel_rfl) HSx_ok⟩
theorem run_Sx (l m : V) : runFC Tryz.prog T K7 LoSx false FU 24 (List Rs) (mkAs T [74, 74] [l, m]) (fun _ => none) 0 (fun out => resC T true [.d 4] out) = sxG 4 l m := by kernel_rfl
noncomputable def tab8 : List (Nat × SymC) := (24, pureS T true [74, 74] (gF sag (sar 4))) :: tab7
theorem tab8_ok : TabOK Tryz.prog T tab8 := by
  refine pure_conG (sh := true) (rk := [.d 4]) (d := 4) (fu := FU) (Lo := LoSx) (ds := [.slice .str, .slice .str]) follows T_ok tab7_ok (by kernel_rfl) LoSx_ok 40 (by kernel_rfl) (fun xs hd hg => ?_)
  obtain ⟨a, b, rfl, ha, hb⟩ := hasL2 hd
  exact (run_Sx a b).trans (sxG_law ha hb hg)
noncomputable def K8 : KC := runAC Tryz.prog T tab8 false FU 4
theorem hK8 : K8.nat := runAC_nat tab8_ok 4
theorem hS8 : KOK Tryz.prog T K8.dir := runAC_ok follows T_ok tab8_ok 4
noncomputable def tmNi : PNi → Vm.St
  | .m xs e a l n i => ⟨[(3, .o 0 1), (5, .p 1 65 []), (6, .i .i64 a), (9, .v 22 l), (10, .i .i64 n), (11, .i .i64 i)], (.n (some (.row 9 1 xs false false)) (.n (some (.box 65 (.v 65 e) false)) .e .e) .e), [], 2, some []⟩
noncomputable def ekNi (R : Type) (kx : Exit → Vm.St → Option R) : QNi → Option R
  | .o xs e a l n i => kx (.exit 2) ⟨[(3, .o 0 1), (5, .p 1 65 []), (6, .i .i64 a), (9, .v 22 l), (10, .i .i64 n), (11, .i .i64 i)], (.n (some (.row 9 1 xs false false)) (.n (some (.box 65 (.v 65 e) false)) .e .e) .e), [], 64, some []⟩
noncomputable def extNi : Vm.St → Option PNi
  | ⟨[(3, .o 0 1), (5, .p 1 65 []), (6, .i .i64 a), (9, .v 22 l), (10, .i .i64 n), (11, .i .i64 i)], (.n (some (.row 9 1 xs false false)) (.n (some (.box 65 (.v 65 e) false)) .e .e) .e), [], 2, some []⟩ => some (.m xs e a l n i)
  | _ => none
theorem extNi_ok (τ : Vm.St) (x : PNi) (h : extNi τ = some x) : τ = tmNi x := by
  unfold extNi at h
  split at h <;> first | (cases h; rfl) | cases h
theorem stepNi (R : Type) (of : Nat → Option Ob) (x : PNi) (K : Vm.St → Option R) (kx : Exit → Vm.St → Option R) : execC T K8 (fun _ => none) false FU (ntOf Tryz.prog 43) of R (lp (codeOf Tryz.prog 43) 1) (tmNi x) (sortN 0 [999999, 3, 5, 6, 9, 10, 11] 64 K kx) = BNi R x (fun x' => K (tmNi x')) (ekNi R kx) := by
  cases x with
  | m _ _ _ _ _ _ => kernel_rfl
noncomputable def HNi : LS := loopH T K8 (fun _ => none) (ntOf Tryz.prog 43) (lp (codeOf Tryz.prog 43) 1) 0 [999999, 3, 5, 6, 9, 10, 11] 64 extNi BNi ekNi
theorem HNi_ok : LoopTk Tryz.prog T (ntOf Tryz.prog 43) 0 (lp (codeOf Tryz.prog 43) 1) HNi :=
  loopH_ok follows T_ok hK8 hS8 loNat_none (loopsOK_none _) tmNi extNi_ok stepNi
noncomputable def tmNo : PNo → Vm.St
  | .m xs l n i => ⟨[(3, .o 0 1), (9, .v 22 l), (10, .i .i64 n), (11, .i .i64 i)], (.n (some (.row 9 1 xs false false)) .e .e), [], 1, some []⟩
noncomputable def ekNo (R : Type) (kx : Exit → Vm.St → Option R) : QNo → Option R
  | .o xs l n i => kx (.exit 0) ⟨[(3, .o 0 1), (9, .v 22 l), (10, .i .i64 n), (11, .i .i64 i)], (.n (some (.row 9 1 xs false false)) .e .e), [], 128, some []⟩
noncomputable def extNo : Vm.St → Option PNo
  | ⟨[(3, .o 0 1), (9, .v 22 l), (10, .i .i64 n), (11, .i .i64 i)], (.n (some (.row 9 1 xs false false)) .e .e), [], 1, some []⟩ => some (.m xs l n i)
  | _ => none
theorem extNo_ok (τ : Vm.St) (x : PNo) (h : extNo τ = some x) : τ = tmNo x := by
  unfold extNo at h
  split at h <;> first | (cases h; rfl) | cases h
theorem stepNo (R : Type) (of : Nat → Option Ob) (x : PNo) (K : Vm.St → Option R) (kx : Exit → Vm.St → Option R) : execC T K8 (loT [(6, HNi)]) false FU (ntOf Tryz.prog 43) of R (lp (codeOf Tryz.prog 43) 0) (tmNo x) (sortN 0 [999999, 3, 9, 10, 11] 128 K kx) = BNo R x (fun x' => K (tmNo x')) (ekNo R kx) := by
  cases x with
  | m _ _ _ _ => kernel_rfl
noncomputable def HNo : LS := loopH T K8 (loT [(6, HNi)]) (ntOf Tryz.prog 43) (lp (codeOf Tryz.prog 43) 0) 0 [999999, 3, 9, 10, 11] 128 extNo BNo ekNo
theorem HNo_ok : LoopTk Tryz.prog T (ntOf Tryz.prog 43) 0 (lp (codeOf Tryz.prog 43) 0) HNo :=
  loopH_ok follows T_ok hK8 hS8 (loT_nat (List.forall_mem_cons.2 ⟨HNi_ok.1, fun _ h => by cases h⟩)) (loopsOK_at 1 (by kernel_rfl) ⟨trivial, loI (s0 := HNi) (by kernel_rfl) ((show lp (lp (codeOf Tryz.prog 43) 0) 0 = lp (codeOf Tryz.prog 43) 1 from by kernel_rfl) ▸ HNi_ok)⟩) tmNo extNo_ok stepNo
noncomputable def LoNo : Nat → LC := atN 0 [(3, HNo)]
theorem LoNo_ok : LoopsC Tryz.prog T 43 LoNo := loopsC_at 0 (List.forall_mem_cons.2 ⟨HNo_ok.1, fun _ h => by cases h⟩) 2 (by kernel_rfl) ⟨⟨trivial, loI (s0 := HNo) (by kernel_rfl) HNo_ok⟩, loN (by kernel_rfl)⟩
theorem run_No (l : V) : runFC Tryz.prog T K8 LoNo false FU 43 (List Rs) (mkAs T [22] [l]) (fun _ => none) 0 (fun out => resC T true [.r 9] out) = noG 9 l := by kernel_rfl
noncomputable def tab9 : List (Nat × SymC) := (43, pureS T true [22] (gF nmg (nmr 9))) :: tab8
theorem tab9_ok : TabOK Tryz.prog T tab9 := by
  refine pure_conG (sh := true) (rk := [.r 9]) (d := 4) (fu := FU) (Lo := LoNo) (ds := [.slice DEnt]) follows T_ok tab8_ok (by kernel_rfl) LoNo_ok 40 (by kernel_rfl) (fun xs hd hg => ?_)
  obtain ⟨a, rfl, ha⟩ := hasL1 hd
  exact (run_No a).trans (noG_law hg)
noncomputable def K9 : KC := runAC Tryz.prog T tab9 false FU 4
theorem hK9 : K9.nat := runAC_nat tab9_ok 4
theorem hS9 : KOK Tryz.prog T K9.dir := runAC_ok follows T_ok tab9_ok 4
noncomputable def tmHn : PHn → Vm.St
  | .m nm l xs n i => ⟨[(1, .s nm), (5, .o 0 1), (9, .v 22 l), (10, .i .i64 n), (11, .i .i64 i)], (.n (some (.row 65 1 xs false false)) .e .e), [], 1, some []⟩
noncomputable def ekHn (R : Type) (kx : Exit → Vm.St → Option R) : QHn → Option R
  | .o nm l xs n i => kx (.exit 0) ⟨[(1, .s nm), (5, .o 0 1), (9, .v 22 l), (10, .i .i64 n), (11, .i .i64 i)], (.n (some (.row 65 1 xs false false)) .e .e), [], 64, some []⟩
noncomputable def extHn : Vm.St → Option PHn
  | ⟨[(1, .s nm), (5, .o 0 1), (9, .v 22 l), (10, .i .i64 n), (11, .i .i64 i)], (.n (some (.row 65 1 xs false false)) .e .e), [], 1, some []⟩ => some (.m nm l xs n i)
  | _ => none
theorem extHn_ok (τ : Vm.St) (x : PHn) (h : extHn τ = some x) : τ = tmHn x := by
  unfold extHn at h
  split at h <;> first | (cases h; rfl) | cases h
theorem stepHn (R : Type) (of : Nat → Option Ob) (x : PHn) (K : Vm.St → Option R) (kx : Exit → Vm.St → Option R) : execC T K9 (fun _ => none) false FU (ntOf Tryz.prog 21) of R (lp (codeOf Tryz.prog 21) 0) (tmHn x) (sortN 0 [999999, 1, 5, 9, 10, 11] 64 K kx) = BHn R x (fun x' => K (tmHn x')) (ekHn R kx) := by
  cases x with
  | m _ _ _ _ _ => kernel_rfl
noncomputable def HHn : LS := loopH T K9 (fun _ => none) (ntOf Tryz.prog 21) (lp (codeOf Tryz.prog 21) 0) 0 [999999, 1, 5, 9, 10, 11] 64 extHn BHn ekHn
theorem HHn_ok : LoopTk Tryz.prog T (ntOf Tryz.prog 21) 0 (lp (codeOf Tryz.prog 21) 0) HHn :=
  loopH_ok follows T_ok hK9 hS9 loNat_none (loopsOK_none _) tmHn extHn_ok stepHn
noncomputable def LoHn : Nat → LC := atN 0 [(3, HHn)]
theorem LoHn_ok : LoopsC Tryz.prog T 21 LoHn := loopsC_at 0 (List.forall_mem_cons.2 ⟨HHn_ok.1, fun _ h => by cases h⟩) 1 (by kernel_rfl) ⟨trivial, loI (s0 := HHn) (by kernel_rfl) HHn_ok⟩
theorem run_Hn (l : V) (n : List V) : runFC Tryz.prog T K9 LoHn false FU 21 (List Rs) (mkAs T [22, 9] [l, .s n]) (fun _ => none) 0 (fun out => resC T true [.r 65] out) = hiG 65 noE l n := by kernel_rfl
noncomputable def tab10 : List (Nat × SymC) := (21, pureS T true [22, 9] (gF hig (hir 65))) :: tab9
theorem tab10_ok : TabOK Tryz.prog T tab10 := by
  refine pure_conG (sh := true) (rk := [.r 65]) (d := 4) (fu := FU) (Lo := LoHn) (ds := [.slice DEnt, .str]) follows T_ok tab9_ok (by kernel_rfl) LoHn_ok 40 (by kernel_rfl) (fun xs hd hg => ?_)
  obtain ⟨a, b, rfl, ha, hb⟩ := hasL2 hd
  obtain ⟨ns, rfl, _⟩ := hb
  exact (run_Hn a _).trans (hiG_law hg)
noncomputable def K10 : KC := runAC Tryz.prog T tab10 false FU 4
theorem hK10 : K10.nat := runAC_nat tab10_ok 4
theorem hS10 : KOK Tryz.prog T K10.dir := runAC_ok follows T_ok tab10_ok 4
theorem run_le (l : V) : runFC Tryz.prog T K10 (fun _ _ => none) false FU 62 (List Rs) (mkAs T [22] [l]) (fun _ => none) 0 (fun out => resC T true [.d 65, .d 4] out) = leG 65 4 l := by kernel_rfl
noncomputable def tab11 : List (Nat × SymC) := (62, pureS T true [22] (gF leg (ler 65 4))) :: tab10
theorem tab11_ok : TabOK Tryz.prog T tab11 := by
  refine pure_conG (sh := true) (rk := [.d 65, .d 4]) (d := 4) (fu := FU) (Lo := (fun _ _ => none)) (ds := [.slice DEnt]) follows T_ok tab10_ok (by kernel_rfl) loopsC_none 40 (by kernel_rfl) (fun xs hd hg => ?_)
  obtain ⟨a, rfl, ha⟩ := hasL1 hd
  exact (run_le a).trans (leG_law hg)
noncomputable def K11 : KC := runAC Tryz.prog T tab11 false FU 4
theorem hK11 : K11.nat := runAC_nat tab11_ok 4
theorem hS11 : KOK Tryz.prog T K11.dir := runAC_ok follows T_ok tab11_ok 4
theorem run_lv (e : V) (h : Int) : runFC Tryz.prog T K11 (fun _ _ => none) false FU 45 (List Rs) (mkAs T [65, 2] [e, .i h]) (fun _ => none) 0 (fun out => resC T true [.d 4] out) = (bif ilt (W64 (h - (e.nth 2).int)) 8 then some [.d 4 (.b true)] else some [.d 4 (.b false)]) := by kernel_rfl
noncomputable def tab12 : List (Nat × SymC) := (45, pureS T true [65, 2] (gF (fun _ => true) (lvr 4))) :: tab11
theorem tab12_ok : TabOK Tryz.prog T tab12 := by
  refine pure_conG (sh := true) (rk := [.d 4]) (d := 4) (fu := FU) (Lo := (fun _ _ => none)) (ds := [DEnt, .int .i64]) follows T_ok tab11_ok (by kernel_rfl) loopsC_none 40 (by kernel_rfl) (fun xs hd hg => ?_)
  obtain ⟨a, b, rfl, ha, hb⟩ := hasL2 hd
  obtain ⟨h, rfl, _⟩ := hb
  refine (run_lv a h).trans ?_
  show _ = some [Rs.d _ (.b (ilt (W64 (h - (a.nth 2).int)) 8))]
  cases ilt (W64 (h - (a.nth 2).int)) 8 <;> rfl
noncomputable def K12 : KC := runAC Tryz.prog T tab12 false FU 4
theorem hK12 : K12.nat := runAC_nat tab12_ok 4
theorem hS12 : KOK Tryz.prog T K12.dir := runAC_ok follows T_ok tab12_ok 4
theorem run_cln  : runFC Tryz.prog T K12 (fun _ _ => none) false FU 46 (List Rs) (mkAs T [22] [.n]) (fun _ => none) 0 (fun out => resC T true [.r 65] out) = some [.r 65 [] true] := by kernel_rfl
theorem run_cl (l : List V) : runFC Tryz.prog T K12 (fun _ _ => none) false FU 46 (List Rs) (mkAs T [22] [.l l]) (fun _ => none) 0 (fun out => resC T true [.r 65] out) = (lim (0 + l.length) <| some [.r 65 l false]) := by kernel_rfl
noncomputable def tab13 : List (Nat × SymC) := (46, pureS T true [22] (gF clg (clr 65))) :: tab12
theorem tab13_ok : TabOK Tryz.prog T tab13 := by
  refine pure_conG (sh := true) (rk := [.r 65]) (d := 4) (fu := FU) (Lo := (fun _ _ => none)) (ds := [.slice DEnt]) follows T_ok tab12_ok (by kernel_rfl) loopsC_none 40 (by kernel_rfl) (fun xs hd hg => ?_)
  obtain ⟨a, rfl, ha⟩ := hasL1 hd
  rcases ha with rfl | ⟨l, rfl, _⟩
  · exact run_cln
  · have hl : l.length ≤ 10000 := Nat.le_of_ble_eq_true hg
    refine (run_cl l).trans ?_
    rw [lim_in (by omega)]; rfl
noncomputable def K13 : KC := runAC Tryz.prog T tab13 false FU 4
theorem hK13 : K13.nat := runAC_nat tab13_ok 4
theorem hS13 : KOK Tryz.prog T K13.dir := runAC_ok follows T_ok tab13_ok 4
theorem run_li (l : V) (n : List V) (h : Int) : runFC Tryz.prog T K13 (fun _ _ => none) false FU 19 (List Rs) (mkAs T [22, 9, 2] [l, .s n, .i h]) (fun _ => none) 0 (fun out => resC T true [.d 65, .d 4] out) = liG 65 4 l n h := by kernel_rfl
noncomputable def tab14 : List (Nat × SymC) := (19, pureS T true [22, 9, 2] (gF lig (lir 65 4))) :: tab13
theorem tab14_ok : TabOK Tryz.prog T tab14 := by
  refine pure_conG (sh := true) (rk := [.d 65, .d 4]) (d := 4) (fu := FU) (Lo := (fun _ _ => none)) (ds := [.slice DEnt, .str, .int .i64]) follows T_ok tab13_ok (by kernel_rfl) loopsC_none 40 (by kernel_rfl) (fun xs hd hg => ?_)
  obtain ⟨a, b, c, rfl, ha, hb, hc⟩ := hasL3 hd
  obtain ⟨ns, rfl, _⟩ := hb
  obtain ⟨h, rfl, _⟩ := hc
  exact (run_li a _ h).trans (liG_law hg)
noncomputable def K14 : KC := runAC Tryz.prog T tab14 false FU 4
theorem hK14 : K14.nat := runAC_nat tab14_ok 4
theorem hS14 : KOK Tryz.prog T K14.dir := runAC_ok follows T_ok tab14_ok 4
end Go.Proofs.YtoodhpoicinomaaGreat

namespace Go.Proofs.YtoodhpoicinomaaGreat
open Go.Vm Go.Shelf Go.Proofs
set_option maxRecDepth 100000
set_option linter.unusedVariables false
def Tryz.keysA_ren : Go.Shelf.Ren := ⟨fun | 7 => 61 | 10 => 79 | n => n, fun | 23 => 91 | 26 => 9 | 3 => 22 | 28 => 127 | 0 => 0 | 27 => 126 | 33 => 143 | 4 => 4 | n => n, fun | n => n⟩
theorem Tryz.keysA : Go.Proofs.SlLaysZ.n7 Tryz.prog Tryz.keysA_ren := {
  mixed := by kernel_rfl
  f7 := ⟨Tryz.f61.name, by decide, Tryz.func61.trans (congrArg some (by kernel_rfl))⟩
  f10 := ⟨Tryz.f79.name, by decide, Tryz.func79.trans (congrArg some (by kernel_rfl))⟩
  t0 := Tryz.underlying0
  a0 := Tryz.isAgg0
  z0 := Tryz.sizeOf0
  v0 := Tryz.zeroValue0
  t4 := Tryz.underlying4
  a4 := Tryz.isAgg4
  z4 := Tryz.sizeOf4
  v4 := Tryz.zeroValue4
  t23 := Tryz.underlying91
  a23 := Tryz.isAgg91
  z23 := Tryz.sizeOf91
  v23 := Tryz.zeroValue91
  t26 := Tryz.underlying9
  a26 := Tryz.isAgg9
  z26 := Tryz.sizeOf9
  v26 := Tryz.zeroValue9
  t27 := Tryz.underlying126
  a27 := Tryz.isAgg126
  z27 := Tryz.sizeOf126
  v27 := Tryz.zeroValue126
  t28 := Tryz.underlying127
  a28 := Tryz.isAgg127
  z28 := Tryz.sizeOf127
  v28 := Tryz.zeroValue127
  t33 := Tryz.underlying143
  a33 := Tryz.isAgg143
  z33 := Tryz.sizeOf143
  v33 := Tryz.zeroValue143 }
def Tryz.sortedA_ren : Go.Shelf.Ren := ⟨fun | 6 => 60 | 8 => 77 | 9 => 78 | 11 => 91 | 13 => 93 | 12 => 92 | 23 => 109 | 24 => 110 | 14 => 100 | 15 => 101 | 16 => 102 | 17 => 103 | 18 => 104 | 19 => 105 | 20 => 106 | 21 => 107 | 22 => 108 | 25 => 113 | 26 => 114 | 27 => 115 | 28 => 116 | 29 => 117 | 30 => 118 | 31 => 122 | n => n, fun | 26 => 9 | 28 => 127 | 24 => 74 | 0 => 0 | 3 => 3 | 37 => 151 | 48 => 23 | 50 => 133 | 4 => 4 | 40 => 162 | 39 => 161 | 45 => 167 | 5 => 5 | 9 => 9 | 51 => 177 | 55 => 181 | 57 => 187 | 58 => 188 | 33 => 143 | n => n, fun | n => n⟩
theorem Tryz.sortedA : Go.Proofs.SlLaysZ.n6 Tryz.prog Tryz.sortedA_ren := {
  mixed := by kernel_rfl
  f6 := ⟨Tryz.f60.name, by decide, Tryz.func60.trans (congrArg some (by kernel_rfl))⟩
  f8 := ⟨Tryz.f77.name, by decide, Tryz.func77.trans (congrArg some (by kernel_rfl))⟩
  f11 := ⟨Tryz.f91.name, by decide, Tryz.func91.trans (congrArg some (by kernel_rfl))⟩
  t0 := Tryz.underlying0
  a0 := Tryz.isAgg0
  z0 := Tryz.sizeOf0
  v0 := Tryz.zeroValue0
  t24 := Tryz.underlying74
  a24 := Tryz.isAgg74
  z24 := Tryz.sizeOf74
  v24 := Tryz.zeroValue74
  t26 := Tryz.underlying9
  a26 := Tryz.isAgg9
  z26 := Tryz.sizeOf9
  v26 := Tryz.zeroValue9
  t28 := Tryz.underlying127
  a28 := Tryz.isAgg127
  z28 := Tryz.sizeOf127
  v28 := Tryz.zeroValue127
  i26 := by kernel_rfl }
def Tryz.sortA_ren : Go.Shelf.Ren := ⟨fun | 6 => 78 | 8 => 93 | 9 => 92 | 19 => 109 | 20 => 110 | 21 => 100 | 22 => 101 | 23 => 102 | 24 => 103 | 25 => 104 | 26 => 105 | 27 => 106 | 28 => 107 | 29 => 108 | 36 => 113 | 31 => 114 | 32 => 115 | 37 => 116 | 38 => 117 | 39 => 118 | 41 => 122 | n => n, fun | 27 => 74 | 29 => 9 | 3 => 3 | 32 => 151 | 26 => 74 | 0 => 0 | 44 => 23 | 46 => 133 | 4 => 4 | 36 => 162 | 35 => 161 | 41 => 167 | 5 => 5 | 9 => 9 | 53 => 177 | 57 => 181 | 63 => 187 | 64 => 188 | n => n, fun | n => n⟩
theorem Tryz.sortA : Go.Proofs.SlLaysM.n6 Tryz.prog Tryz.sortA_ren := {
  mixed := by kernel_rfl
  f6 := ⟨Tryz.f78.name, by decide, Tryz.func78.trans (congrArg some (by kernel_rfl))⟩
  f8 := Tryz.func93.trans (congrArg some (by kernel_rfl))
  f9 := ⟨Tryz.f92.name, by decide, Tryz.func92.trans (congrArg some (by kernel_rfl))⟩
  f19 := Tryz.func109.trans (congrArg some (by kernel_rfl))
  f20 := Tryz.func110.trans (congrArg some (by kernel_rfl))
  f21 := ⟨Tryz.f100.name, by decide, Tryz.func100.trans (congrArg some (by kernel_rfl))⟩
  f22 := ⟨Tryz.f101.name, by decide, Tryz.func101.trans (congrArg some (by kernel_rfl))⟩
  f23 := ⟨Tryz.f102.name, by decide, Tryz.func102.trans (congrArg some (by kernel_rfl))⟩
  f24 := ⟨Tryz.f103.name, by decide, Tryz.func103.trans (congrArg some (by kernel_rfl))⟩
  f25 := ⟨Tryz.f104.name, by decide, Tryz.func104.trans (congrArg some (by kernel_rfl))⟩
  f26 := ⟨Tryz.f105.name, by decide, Tryz.func105.trans (congrArg some (by kernel_rfl))⟩
  f27 := ⟨Tryz.f106.name, by decide, Tryz.func106.trans (congrArg some (by kernel_rfl))⟩
  f28 := ⟨Tryz.f107.name, by decide, Tryz.func107.trans (congrArg some (by kernel_rfl))⟩
  f29 := ⟨Tryz.f108.name, by decide, Tryz.func108.trans (congrArg some (by kernel_rfl))⟩
  f31 := Tryz.func114.trans (congrArg some (by kernel_rfl))
  f32 := Tryz.func115.trans (congrArg some (by kernel_rfl))
  f36 := ⟨Tryz.f113.name, by decide, Tryz.func113.trans (congrArg some (by kernel_rfl))⟩
  f37 := ⟨Tryz.f116.name, by decide, Tryz.func116.trans (congrArg some (by kernel_rfl))⟩
  f38 := ⟨Tryz.f117.name, by decide, Tryz.func117.trans (congrArg some (by kernel_rfl))⟩
  f39 := ⟨Tryz.f118.name, by decide, Tryz.func118.trans (congrArg some (by kernel_rfl))⟩
  f41 := ⟨Tryz.f122.name, by decide, Tryz.func122.trans (congrArg some (by kernel_rfl))⟩
  t0 := Tryz.underlying0
  a0 := Tryz.isAgg0
  z0 := Tryz.sizeOf0
  v0 := Tryz.zeroValue0
  t3 := Tryz.underlying3
  a3 := Tryz.isAgg3
  z3 := Tryz.sizeOf3
  v3 := Tryz.zeroValue3
  t4 := Tryz.underlying4
  a4 := Tryz.isAgg4
  z4 := Tryz.sizeOf4
  v4 := Tryz.zeroValue4
  t5 := Tryz.underlying5
  a5 := Tryz.isAgg5
  z5 := Tryz.sizeOf5
  v5 := Tryz.zeroValue5
  t9 := Tryz.underlying9
  a9 := Tryz.isAgg9
  z9 := Tryz.sizeOf9
  v9 := Tryz.zeroValue9
  t26 := Tryz.underlying74
  a26 := Tryz.isAgg74
  z26 := Tryz.sizeOf74
  v26 := Tryz.zeroValue74
  t27 := Tryz.underlying74
  a27 := Tryz.isAgg74
  z27 := Tryz.sizeOf74
  v27 := Tryz.zeroValue74
  t29 := Tryz.underlying9
  a29 := Tryz.isAgg9
  z29 := Tryz.sizeOf9
  v29 := Tryz.zeroValue9
  t32 := Tryz.underlying151
  a32 := Tryz.isAgg151
  z32 := Tryz.sizeOf151
  v32 := Tryz.zeroValue151
  t35 := Tryz.underlying161
  a35 := Tryz.isAgg161
  z35 := Tryz.sizeOf161
  v35 := Tryz.zeroValue161
  t36 := Tryz.underlying162
  a36 := Tryz.isAgg162
  z36 := Tryz.sizeOf162
  v36 := Tryz.zeroValue162
  t41 := Tryz.underlying167
  a41 := Tryz.isAgg167
  z41 := Tryz.sizeOf167
  v41 := Tryz.zeroValue167
  t44 := Tryz.underlying23
  a44 := Tryz.isAgg23
  z44 := Tryz.sizeOf23
  v44 := Tryz.zeroValue23
  t46 := Tryz.underlying133
  a46 := Tryz.isAgg133
  z46 := Tryz.sizeOf133
  v46 := Tryz.zeroValue133
  t53 := Tryz.underlying177
  a53 := Tryz.isAgg177
  z53 := Tryz.sizeOf177
  v53 := Tryz.zeroValue177
  t57 := Tryz.underlying181
  a57 := Tryz.isAgg181
  z57 := Tryz.sizeOf181
  v57 := Tryz.zeroValue181
  t63 := Tryz.underlying187
  a63 := Tryz.isAgg187
  z63 := Tryz.sizeOf187
  v63 := Tryz.zeroValue187
  t64 := Tryz.underlying188
  a64 := Tryz.isAgg188
  z64 := Tryz.sizeOf188
  v64 := Tryz.zeroValue188 }

theorem sortsA (m : Nat) : AnyZ.SortsIn Tryz.prog Tryz.sortedA_ren Fence.wide m :=
  ⟨fun blk off cap ss W hH hblk hsz => callsIn_wide.2 (AnyM.slices_Sort_string Tryz.sortA blk off cap ss W hH hblk hsz),
   fun p cap W => callsIn_wide.2 (AnyM.slices_Sort_string_none Tryz.sortA p cap W)⟩
theorem sortedKeys : SortedKeys Tryz.prog 60 79 9 := by
  intro Bm b nn D0 R w hBm hcell hown hsize
  have hmax : Maps.size D0 ≤ maxLen := Nat.le_trans hsize (by decide)
  have hseq : SeqGives Fence.wide 2 Tryz.prog 79 #[.pointer (some ⟨Bm, 0, none⟩)] encStr (fun ss => ss.Perm (strKeys D0)) (Maps.size D0) w := AnyZ.keys_gives (ρ := Tryz.keysA_ren) { Tryz.keysA with } Fence.wide _ trivial rfl (by omega) Bm b nn D0 w hBm hcell hown
  have cS := AnyZ.sorted_in Tryz.sortedA Fence.wide 5 trivial trivial trivial trivial rfl (by omega) (sortsA _) (enters_of Tryz.func78 (by kernel_rfl) rfl) 79 #[.pointer (some ⟨Bm, 0, none⟩)] trivial (enters_of Tryz.func79 (by kernel_rfl) rfl) _ _ hmax (by omega) w hseq
  change CallsIn _ _ Tryz.prog 60 _ _ _ at cS
  exact callsIn_wide.1 cS
end Go.Proofs.YtoodhpoicinomaaGreat

namespace Go.Proofs.YtoodhpoicinomaaGreat
open Go.Vm
set_option maxRecDepth 100000
set_option linter.unusedVariables false
set_option linter.constructorNameAsVariable false
noncomputable def tab15 : List (Nat × SymC) := (60, sortKC 79 9) :: tab14
theorem tab15_ok : TabOK Tryz.prog T tab15 := tab14_ok.cons (sortKC_nat _ _) (by rw [sortKC_dir]; exact sortK_ok T_ok sortedKeys (by kernel_rfl) (by kernel_rfl) (enters_of Tryz.func60 (by kernel_rfl) rfl))
noncomputable def K15 : KC := runAC Tryz.prog T tab15 false FU 4
theorem hK15 : K15.nat := runAC_nat tab15_ok 4
theorem hS15 : KOK Tryz.prog T K15.dir := runAC_ok follows T_ok tab15_ok 4
end Go.Proofs.YtoodhpoicinomaaGreat

namespace Go.Proofs.YtoodhpoicinomaaGreat
open Go.Vm
set_option maxRecDepth 100000
set_option linter.unusedVariables false
def bodyC : Go.Code → Go.Code
  | .seq _ (.seq _ (.block _ (.seq _ r))) => r
  | _ => .skip
noncomputable def cσ (k xs : List V) (done : List (V × V × Bool)) : Vm.St := ⟨[(3, .p 0 93 []), (4, .s k), (5, .v 22 (.l xs)), (18, .p 2 0 [])], ((Tr.e.set 0 (.box 93 (.g 93 [.m 1]) false)).set 1 (.sm 9 22 65 done none)), [], 3, some []⟩
def seeσ (ex : Go.Exit) (σ : Vm.St) : Option (Go.Exit × Option Ob × Option Ob × A × A × Nat × Option (List Nat) × List Nat) := some (ex, σ.ob.get 0, σ.ob.get 1, getS σ.sl 3, getS σ.sl 18, σ.nx, σ.mks, σ.rd)
theorem body_run (k xs : List V) (done : List (V × V × Bool)) : execC T K15 (fun _ => none) false FU (ntOf Tryz.prog 27) (fun _ => none) _ (bodyC (lp (codeOf Tryz.prog 27) 0)) (cσ k xs done) seeσ =
    (bif Nat.ble xs.length 10000 then some (.normal, some (.box 93 (.g 93 [.m 1]) false), some (.sm 9 22 65 (setS (.s k) (.l xs) true done) none), .p 0 93 [], .p 2 0 [], 4, some [], []) else none) := by kernel_rfl
theorem code_loops : LoopsOK Tryz.prog T (ntOf Tryz.prog 27) 3 (dirL (fun _ => none)) (bodyC (lp (codeOf Tryz.prog 27) 0)) := by
  rw [show dirL (fun _ => none) = fun _ => none from by funext b; rfl]
  exact loopsOK_none _
theorem round5 {c : Ctx} {e1 : Env} {k xs : List V} {done : List (V × V × Bool)} {a : Act} {Q : Go.Exit → Act → World → Prop} (hos : OSim T c e1 (mbx 0 1 93 9 22 65 done)) (hU : ∀ id, e1.U id ↔ id = 0 ∨ id = 1 ∨ id = 2)
    (hl : xs.length ≤ 10000) (h3 : Rep T e1 (.p 0 93 []) (a.tmps.getD 3 undef)) (h4 : Rep T e1 (.s k) (a.tmps.getD 4 undef)) (h5 : Rep T e1 (.v 22 (.l xs)) (a.tmps.getD 5 undef)) (h18 : Rep T e1 (.p 2 0 []) (a.tmps.getD 18 undef)) (hn : a.tmps.size = ntOf Tryz.prog 27) (hd : a.defers = [])
    (hQ : ∀ a' e', OSim T c e' (mbx 0 1 93 9 22 65 (setS (.s k) (.l xs) true done)) → e1.le e' → (∀ b, b < e1.w.heap.size → ¬ (Ctx.here e1 (mbx 0 1 93 9 22 65 done) none).M b → e'.w.heap[b]? = e1.w.heap[b]?) → (∀ x b, e'.G x b → e1.w.heap.size ≤ b ∨ (Ctx.here e1 (mbx 0 1 93 9 22 65 done) none).M b) →
      a'.tmps.size = ntOf Tryz.prog 27 → a'.defers = [] → Rep T e' (.p 0 93 []) (a'.tmps.getD 3 undef) → Rep T e' (.p 2 0 []) (a'.tmps.getD 18 undef) → Q .normal a' e'.w) :
    (bodyC (lp (codeOf Tryz.prog 27) 0)).wp Tryz.prog Q a e1.w := by
  have hb := body_run k xs done
  rw [Nat.ble_eq_true_of_le hl, cond_true, execC_eq hK15 loNat_none] at hb
  cases hx : exec T K15.dir (dirL (fun _ => none)) FU (ntOf Tryz.prog 27) (fun _ => none) (bodyC (lp (codeOf Tryz.prog 27) 0)) (cσ k xs done) with
  | none => rw [hx] at hb; cases hb
  | some p =>
  obtain ⟨ex, σ'⟩ := p
  rw [hx] at hb
  have hb : seeσ ex σ' = _ := hb
  unfold seeσ at hb
  simp only [Option.some.injEq, Prod.mk.injEq] at hb
  obtain ⟨rfl, b0, b1, s3, s18, nx, mk, rd⟩ := hb
  obtain ⟨hle, hT⟩ := exec_ok (P := Tryz.prog) follows T_ok hS15 (n0 := 3) _ code_loops _ _ _ hx
  have hsim : Sim T (Ctx.here e1 (mbx 0 1 93 9 22 65 done) none) e1 (fun _ => none) 3 (ntOf Tryz.prog 27) (cσ k xs done) a e1.w := by
    refine ⟨e1, rfl, ?_, Env.le.refl e1, fun id hid => .inl hid, fun t => ?_, ⟨rfl, by rw [hd]; exact .nil⟩, hn⟩
    · refine (hos.here none).sub (fun id o ho => ?_)
      have ho : over ((Tr.e.set 0 (.box 93 (.g 93 [.m 1]) false)).set 1 (.sm 9 22 65 done none)) (fun _ => none) id = some o := ho
      rw [over_set, over_set] at ho
      have he : over Tr.e (fun _ => none) id = none := by unfold over; rw [Tr.get_e]
      unfold mbx
      by_cases h1 : id = 1
      · subst h1; rw [upd_same] at ho; rw [if_neg (by decide), if_pos rfl]; exact ho
      · rw [upd_ne _ _ h1] at ho
        by_cases h0 : id = 0
        · subst h0; rw [upd_same] at ho; rw [if_pos rfl]; exact ho
        · rw [upd_ne _ _ h0, he] at ho; cases ho
    · show Rep T e1 (getS [(3, .p 0 93 []), (4, .s k), (5, .v 22 (.l xs)), (18, .p 2 0 [])] t) _
      rw [getS_cons, getS_cons, getS_cons, getS_cons]
      by_cases t3 : t = 3
      · subst t3; rw [upd_same]; exact h3
      · rw [upd_ne _ _ t3]
        by_cases t4 : t = 4
        · subst t4; rw [upd_same]; exact h4
        · rw [upd_ne _ _ t4]
          by_cases t5 : t = 5
          · subst t5; rw [upd_same]; exact h5
          · rw [upd_ne _ _ t5]
            by_cases t6 : t = 18
            · subst t6; rw [upd_same]; exact h18
            · rw [upd_ne _ _ t6]; trivial
  have hw := hT 0 (fun _ => none) (Ctx.here e1 (mbx 0 1 93 9 22 65 done) none) e1 a e1.w (Nat.le_refl _) ⟨fun _ _ => rfl, fun id h1 h2 hu => ?_⟩ (fun id o ho => by cases ho) hsim
  · refine (wpIn_wide (n := 0)).1 (wpIn_mono hw ?_)
    rintro e' a' w' ⟨rfl, e2, rfl, hst⟩
    have hos2 := hst.os.sub (of2 := mbx 0 1 93 9 22 65 (setS (.s k) (.l xs) true done)) (fun id o ho => by
      unfold mbx at ho
      split at ho
      · rename_i hid; subst hid; unfold over; rw [b0]; exact ho
      · split at ho
        · rename_i hid; subst hid; unfold over; rw [b1]; exact ho
        · cases ho)
    refine hQ a' e2 (hos.back_here hos2) hst.le (fun b hb hm => hos2.block b hb hm) hos2.g.own hst.nt ?_ (by have := hst.sl 3; rw [s3] at this; exact this) (by have := hst.sl 18; rw [s18] at this; exact this)
    · have := hst.def_
      rw [mk] at this
      obtain ⟨_, hm⟩ := this
      generalize a'.defers = ds at hm ⊢
      cases hm; rfl
  · rw [nx] at h2
    have := (hU id).1 hu
    omega
end Go.Proofs.YtoodhpoicinomaaGreat

namespace Go.Proofs.YtoodhpoicinomaaGreat
open Go.RowKit Go.Vm
open Go.ChangeMaps (setBlock)
set_option linter.unusedVariables false
theorem mbT : MapBox T 93 91 := ⟨by kernel_rfl, by kernel_rfl, by kernel_rfl⟩
theorem round5' {cd : Code} (hcd : cd = bodyC (lp (codeOf Tryz.prog 27) 0)) {a : Act} {Q : Go.Exit → Act → World → Prop} {w : World} (h : (bodyC (lp (codeOf Tryz.prog 27) 0)).wp Tryz.prog Q a w) : cd.wp Tryz.prog Q a w := hcd ▸ h
/-- What stands at a round's beginning. -/
structure RoundI (w : World) (S : Nat → Nat → Prop) (bm clock : Nat) (ms : Array MapEntry) (es' : List (V × V × Bool)) (a : Act) (wr : World) (seen : Array Nat) (done : List (V × V × Bool)) (G1 S1 : Nat → Nat → Prop) : Prop where
  os : OSim T (Ctx.bare w S) (Env.mbi wr S1 G1 (w.heap.size + 1) w.heap.size (w.heap.size + 2) 93) (mbx 0 1 93 9 22 65 done)
  le : (Env.bare w S).le (Env.mbi wr S1 G1 (w.heap.size + 1) w.heap.size (w.heap.size + 2) 93)
  it : wr.heap[w.heap.size + 2]? = some (.mapIter (some bm) clock seen clock)
  nG : ∀ x, ¬ G1 x (w.heap.size + 2)
  dn : Done es' ms.toList seen.toList done
  nt : a.tmps.size = ntOf Tryz.prog 27
  df : a.defers = []
  t3 : a.tmps.getD 3 undef = .pointer (some ⟨w.heap.size + 1, 0, none⟩)
  t18 : a.tmps.getD 18 undef = .pointer (some ⟨w.heap.size + 2, 0, none⟩)
theorem start {w : World} {S : Nat → Nat → Prop} (hS : ∀ b i, S b i → b < w.heap.size) (bm clock : Nat) : ∃ G1 S1, (∀ x b, ¬ G1 x b) ∧
    OSim T (Ctx.bare w S) (Env.mbi (((w.alloc (Obj.map #[] 0)).alloc (Obj.cells #[Value.map (some w.heap.size)] 93)).alloc (Obj.mapIter (some bm) clock #[] clock)) S1 G1 (w.heap.size + 1) w.heap.size (w.heap.size + 2) 93) (mbx 0 1 93 9 22 65 []) ∧
    (Env.bare w S).le (Env.mbi (((w.alloc (Obj.map #[] 0)).alloc (Obj.cells #[Value.map (some w.heap.size)] 93)).alloc (Obj.mapIter (some bm) clock #[] clock)) S1 G1 (w.heap.size + 1) w.heap.size (w.heap.size + 2) 93) := by
  have h0 := OSim.bare (T := T) hS
  have hu1 : ¬ (Env.bare w S).U 1 := fun q => q
  have h1 := h0.newM (id := 1) (g := .map #[] 0) (o := .sm 9 22 65 [] none) hu1 ⟨.inl rfl, rfl, by kernel_rfl, by kernel_rfl, by decide +kernel, w.heap.size, #[], 0, rfl, alloc_new _ _, ⟨List.nodup_nil, stB_nil⟩, [], [], List.Perm.refl _, .nil⟩
  have l1 := h0.le_newM hu1 (.map #[] 0)
  have hu0 : ¬ ((Env.bare w S).newM 1 (.map #[] 0)).U 0 := by rintro (q | q); cases q; exact q
  have hra : RA T ((Env.bare w S).newM 1 (.map #[] 0)) [.g 93 [.m 1]] [Value.map (some w.heap.size)] := by
    have := RA.g (e := (Env.bare w S).newM 1 (.map #[] 0)) (ds := [.map (some w.heap.size)]) (l := [.m 1]) mbT.ch (by simp [fitL, fitA, mbT.sc]) (by rw [mbT.sz]; rfl) (RA.r ⟨w.heap.size, .inl rfl, rfl, rfl, rfl⟩ rfl .nil) .nil
    rwa [List.append_nil] at this
  have ok0 := OK_box (id := 0) (t := 93) (cs := #[Value.map (some w.heap.size)]) h1 hu0 hra (by simp [fitA])
  have h2 := h1.new hu0 ok0
  have l2 := h1.le_new hu0 0 93 0 #[Value.map (some w.heap.size)] 93 (0, 0)
  obtain ⟨h3, l3⟩ := h2.alloc (Obj.mapIter (some bm) clock #[] clock)
  have h4 := h3.sub (of2 := mbx 0 1 93 9 22 65 []) (fun id o ho => by
    unfold mbx at ho
    split at ho
    · rename_i hid; subst hid; rw [Go.Vm.upd_same]; exact ho
    · rename_i hne
      split at ho
      · rename_i hid; subst hid; rw [Go.Vm.upd_ne _ _ hne, Go.Vm.upd_same]; exact ho
      · cases ho)
  have hsz : (w.alloc (Obj.map #[] 0)).heap.size = w.heap.size + 1 := size_alloc _ _
  have i0 : ((((Env.bare w S).newM 1 (.map #[] 0)).new 0 0 93 0 #[Value.map (some w.heap.size)] 93 (0, 0))).ι 0 = some (w.heap.size + 1, 0) := by
    rw [← hsz]; rfl
  have i1 : ((((Env.bare w S).newM 1 (.map #[] 0)).new 0 0 93 0 #[Value.map (some w.heap.size)] 93 (0, 0))).ι 1 = some (w.heap.size, 0) := by
    rfl
  have h5 := mbi_norm (it := w.heap.size + 2) mbT (show (0 : Nat) ≠ 1 by decide) h4 i0 i1 (by
    show _ < (((w.alloc (Obj.map #[] 0)).alloc (Obj.cells #[Value.map (some w.heap.size)] 93)).alloc (Obj.mapIter (some bm) clock #[] clock)).heap.size
    rw [size_alloc, size_alloc, size_alloc]; omega)
  exact ⟨_, _, fun x b q => q, h5, mbi_le ((l1.trans l2).trans l3)⟩
set_option maxRecDepth 1000000 in
theorem copies (Bp bm clock : Nat) (ms : Array MapEntry) (w : World) (S : Nat → Nat → Prop) (es' : List (V × V × Bool)) (hBp : Bp < w.heap.size) (hp : w.cell? ⟨Bp, 0, none⟩ = some (.map (some bm))) (hb : w.heap[bm]? = some (.map ms clock)) (hst : StB ms clock)
    (hS : ∀ b i, S b i → b < w.heap.size) (hE : Ents T (Env.bare w S) 9 22 es' ms.toList) (hL : ∀ q ∈ es', ∃ k xs, q.1 = .s k ∧ q.2.1 = .l xs ∧ xs.length ≤ 10000) (hnd : (es'.map (·.1)).Nodup) :
    Calls Tryz.prog 27 #[.pointer (some ⟨Bp, 0, none⟩)] w (fun en w' => ∃ a seen done G1 S1, RoundI w S bm clock ms es' a w' seen done G1 S1 ∧ (leftOf ms seen).size = 0 ∧ en = .returned (.pointer (some ⟨w.heap.size + 1, 0, none⟩))) := by
  have hbm : bm < w.heap.size := (Array.getElem?_eq_some_iff.1 hb).1
  have hg : (getObj bm).run Tryz.prog w = .ok (.map ms clock) w := MapKept.run_getObj_map hb
  have hlen : (Builtin.len_ #[91] 3 #[Value.map (some bm)]).run Tryz.prog w = .ok (.int .i64 ms.size) w := by
    simp [Builtin.len_, run_under Tryz.underlying91, goInt, hg]
  have hmk : ∀ (n : Int) (w : World), (Instr.makeMap 91 (some (.int .i64 n))).run Tryz.prog w = .ok (.map (some w.heap.size)) (w.alloc (.map #[] 0)) := fun n w => by
    simp [Instr.makeMap, run_under Tryz.underlying91, asInt, asIntOf]
  have hb2 : ((w.alloc (Obj.map #[] 0)).alloc (Obj.cells #[Value.map (some w.heap.size)] 93)).heap[bm]? = some (.map ms clock) := by
    rw [alloc_old _ _ (by rw [size_alloc]; omega), alloc_old _ _ hbm]; exact hb
  have hrg := run_range_map (P := Tryz.prog) ((w.alloc (Obj.map #[] 0)).alloc (Obj.cells #[Value.map (some w.heap.size)] 93)) 91 _ _ bm ms clock Tryz.underlying91 hb2
  rw [show ((w.alloc (Obj.map #[] 0)).alloc (Obj.cells #[Value.map (some w.heap.size)] 93)).heap.size = w.heap.size + 2 by rw [size_alloc, size_alloc]] at hrg
  go_enter Tryz.func27, Tryz.ntmps27
  go_wp2
  refine wp_loop (fun a wr => ∃ seen done G1 S1, RoundI w S bm clock ms es' a wr seen done G1 S1) (fun _ wr => (leftOf ms (wr.iterSeen (w.heap.size + 2))).size) ?start ?round
  case start =>
    obtain ⟨G1, S1, g0, g1, g2⟩ := start (w := w) hS bm clock
    refine ⟨#[], [], G1, S1, g1, g2, ?_, fun x => g0 x _, ?_, rfl, rfl, rfl, rfl⟩
    · rw [show w.heap.size + 2 = ((w.alloc (Obj.map #[] 0)).alloc (Obj.cells #[Value.map (some w.heap.size)] 93)).heap.size by rw [size_alloc, size_alloc]]
      exact alloc_new _ _
    · show List.Perm [] _
      rw [List.filter_eq_nil_iff.2 (fun p _ => by simp)]
      exact List.Perm.refl _
  case round =>
    rintro ⟨tmps, defers⟩ wr ⟨seen, done, G1, S1, hI⟩
    have hnt : tmps.size = 32 := hI.nt
    obtain ⟨u0, u1, u2, u3, u4, u5, u6, u7, u8, u9, u10, u11, u12, u13, u14, u15, u16, u17, u18, u19, u20, u21, u22, u23, u24, u25, u26, u27, u28, u29, u30, u31, rfl⟩ := arr32 hnt
    have hdf : defers = [] := hI.df
    have h3 : u3 = .pointer (some ⟨w.heap.size + 1, 0, none⟩) := hI.t3
    have h18 : u18 = .pointer (some ⟨w.heap.size + 2, 0, none⟩) := hI.t18
    subst hdf
    subst h3
    subst h18
    have hit := hI.it
    have hbl : wr.heap[bm]? = w.heap[bm]? := hI.os.block bm hbm (fun q => q)
    have hb1 := hbl.trans hb
    have hwr : w.heap.size + 2 < wr.heap.size := (Array.getElem?_eq_some_iff.1 hit).1
    rcases run_next_at (P := Tryz.prog) wr 0 (w.heap.size + 2) bm clock clock seen ms clock hit hb1 hst.1 (Nat.le_refl _) with ⟨h0, hrun⟩ | ⟨e, he, w1, hw1, hrun⟩
    · have hnx : ∀ ty, (Instr.next (.pointer (some ⟨w.heap.size + 2, 0, none⟩)) false ty).run Tryz.prog wr = _ := fun _ => hrun
      go_wp2
      go_ret
      exact ⟨_, seen, done, G1, S1, hI, h0, rfl⟩
    · have hnx : ∀ ty, (Instr.next (.pointer (some ⟨w.heap.size + 2, 0, none⟩)) false ty).run Tryz.prog wr = _ := fun _ => hrun
      generalize hw2 : setBlock w1 (w.heap.size + 2) (.mapIter (some bm) clock (seen.push e.born) clock) = w2 at hnx
      have hw1h : w1.heap = wr.heap := by rcases hw1 with rfl | rfl <;> rfl
      have hsz2 : w2.heap.size = wr.heap.size := by rw [← hw2, ← hw1h]; simp [setBlock]
      have hit2 : w2.heap[w.heap.size + 2]? = some (.mapIter (some bm) clock (seen.push e.born) clock) := by
        rw [← hw2]; simp [setBlock, hw1h, hwr]
      have hne2 : ∀ k, k ≠ w.heap.size + 2 → w2.heap[k]? = wr.heap[k]? := fun k hk => by rw [← hw2, ← hw1h]; simp [setBlock, Ne.symm hk]
      have hb2 : w2.heap[bm]? = some (.map ms clock) := (hne2 bm (by omega)).trans hb1
      have hen := run_entry_at (P := Tryz.prog) w2 (w.heap.size + 2) bm clock seen ms clock e hit2 hb2 (mem_left he).1 hst.2
      -- the state told for the world behind 'next'
      have hno : ∀ id q, (mbx 0 1 93 9 22 65 done id).isSome → (Env.mbi wr S1 G1 (w.heap.size + 1) w.heap.size (w.heap.size + 2) 93).ι id ≠ some (w.heap.size + 2, q) := by
        intro id q hi hι
        by_cases h0 : id = 0
        · subst h0
          have : some (w.heap.size + 1, 0) = some (w.heap.size + 2, q) := hι
          injection this with this; injection this with this _; omega
        · by_cases h1 : id = 1
          · subst h1
            have : some (w.heap.size, 0) = some (w.heap.size + 2, q) := hι
            injection this with this; injection this with this _; omega
          · unfold mbx at hi
            rw [if_neg h0, if_neg h1] at hi
            cases hi
      have hos1 : OSim T (Ctx.bare w S) (Env.mbi w1 S1 G1 (w.heap.size + 1) w.heap.size (w.heap.size + 2) 93) (mbx 0 1 93 9 22 65 done) ∧ (Env.bare w S).le (Env.mbi w1 S1 G1 (w.heap.size + 1) w.heap.size (w.heap.size + 2) 93) := by
        rcases hw1 with rfl | rfl
        · exact ⟨hI.os, hI.le⟩
        · obtain ⟨q1, q2⟩ := hI.os.same_heap (w' := wr.drew) rfl rfl rfl rfl
          exact ⟨q1, hI.le.trans q2⟩
      obtain ⟨hos2, hle2⟩ := hos1.1.aside (b := w.heap.size + 2) (g := .mapIter (some bm) clock seen clock) (g' := .mapIter (some bm) clock (seen.push e.born) clock) (.inl (by show w.heap.size ≤ _; omega)) hno hI.nG (by show w1.heap[_]? = _; rw [hw1h]; exact hit) (fun _ _ _ q => by cases q) (fun _ _ _ q => by cases q) (w' := w2) (by rw [← hw2]; rfl)
      have hos2 : OSim T (Ctx.bare w S) (Env.mbi w2 S1 G1 (w.heap.size + 1) w.heap.size (w.heap.size + 2) 93) (mbx 0 1 93 9 22 65 done) := hos2
      have hleb : (Env.bare w S).le (Env.mbi w2 S1 G1 (w.heap.size + 1) w.heap.size (w.heap.size + 2) 93) := hos1.2.trans hle2
      -- the entry
      obtain ⟨i, hi⟩ := List.mem_iff_getElem?.1 (mem_left he).1
      have hil : i < es'.length := by rw [hE.1]; exact (List.getElem?_eq_some_iff.1 hi).1
      obtain ⟨⟨k', x', q'⟩, hie⟩ : ∃ p, es'[i]? = some p := ⟨_, List.getElem?_eq_getElem hil⟩
      obtain ⟨hr1, hr2⟩ := hE.2 i k' x' q' e hie hi
      obtain ⟨k, xs, hk, hx, hxl⟩ := hL _ (List.mem_of_getElem? hie)
      simp only at hk hx
      subst hk
      subst hx
      go_wp2
      refine round5' (by kernel_rfl) ?_
      refine round5 (e1 := Env.mbi w2 S1 G1 (w.heap.size + 1) w.heap.size (w.heap.size + 2) 93) (k := k) (xs := xs) hos2 mbi_U hxl mbi_p0 ?_ ?_ mbi_p2 rfl rfl ?_
      · have h1 : Rep T (Env.mbi w2 S1 G1 (w.heap.size + 1) w.heap.size (w.heap.size + 2) 93) (.v 9 (.s k)) e.key := rep_fit (hr1.mono hleb) (fitA_v _ _)
        obtain ⟨te, hte, _⟩ := kOf_some (T := T) (show kOf T 9 = some .str by kernel_rfl)
        have h2 := norm_rep hte h1 (fitA_v _ _)
        rw [show norm T (.v 9 (.s k)) = .s k from by kernel_rfl] at h2
        exact h2
      · have hone : Go.Vm.one e.val = true := hr2.one _ (by simp)
        exact ⟨by show RV T _ [22] [.l xs] e.val.cells.toList; rw [cells_one hone]; exact hr2.mono hleb, aggIff_scal (show kOf T 22 = some (.slice 65) by kernel_rfl) rfl hone⟩
      · intro a' e3 p1 p2 p3 p4 p5 p6 p7 p8
        have i0 : e3.ι 0 = some (w.heap.size + 1, 0) := (p2.obj 0 (mbi_U 0 |>.2 (.inl rfl)) (p2.box 0 (mbi_U 0 |>.2 (.inl rfl)) rfl)).1
        have i1 : e3.ι 1 = some (w.heap.size, 0) := (p2.obj 1 (mbi_U 1 |>.2 (.inr (.inl rfl))) (p2.box 1 (mbi_U 1 |>.2 (.inr (.inl rfl))) rfl)).1
        have i2 : e3.ι 2 = some (w.heap.size + 2, 0) := (p2.obj 2 (mbi_U 2 |>.2 (.inr (.inr rfl))) (p2.box 2 (mbi_U 2 |>.2 (.inr (.inr rfl))) rfl)).1
        have hlt2 : w.heap.size + 2 < w2.heap.size := by omega
        have hgr : w2.heap.size ≤ e3.w.heap.size := p2.grow
        have hnM : ¬ (Ctx.here (Env.mbi w2 S1 G1 (w.heap.size + 1) w.heap.size (w.heap.size + 2) 93) (mbx 0 1 93 9 22 65 done) none).M (w.heap.size + 2) := by
          rintro (⟨id, q, h1, h2⟩ | ⟨x, h1⟩)
          · exact hno id q h1 h2
          · exact hI.nG x h1
        have hit3 : e3.w.heap[w.heap.size + 2]? = some (.mapIter (some bm) clock (seen.push e.born) clock) := (p3 _ hlt2 hnM).trans hit2
        have hnb : e.born ∉ seen.toList := by
          have := (mem_left he).2
          simpa using this
        change (∃ seen done G1 S1, RoundI w S bm clock ms es' a' e3.w seen done G1 S1) ∧ (leftOf ms (e3.w.iterSeen (w.heap.size + 2))).size < (leftOf ms (wr.iterSeen (w.heap.size + 2))).size
        refine ⟨⟨seen.push e.born, setS (.s k) (.l xs) true done, e3.G, e3.S, mbi_norm mbT (by decide) p1 i0 i1 (by omega), mbi_le (hleb.trans p2), hit3, fun x hG => ?_, ?_, p5, p6, ?_, ?_⟩, ?_⟩
        · rcases p4 x _ hG with q | q
          · have q : w2.heap.size ≤ w.heap.size + 2 := q
            omega
          · exact hnM q
        · rw [Array.toList_push]
          exact done_push hI.dn hE.1 hst.2 hnd hie hi hnb
        · obtain ⟨b, off, _, _, q3, q4, q5⟩ := rep_p_inv p7
          rw [i0] at q3; cases q3
          rw [show e3.ty 0 = 93 from p2.ty 0 (mbi_U 0 |>.2 (.inl rfl))] at q4
          cases q4
          exact q5
        · obtain ⟨b, off, _, _, q3, q4, q5⟩ := rep_p_inv p8
          rw [i2] at q3; cases q3
          rw [show e3.ty 2 = 0 from p2.ty 2 (mbi_U 2 |>.2 (.inr (.inr rfl)))] at q4
          cases q4
          exact q5
        · have e1 : e3.w.iterSeen (w.heap.size + 2) = seen.push e.born := by unfold World.iterSeen; rw [hit3]
          have e2 : wr.iterSeen (w.heap.size + 2) = seen := by unfold World.iterSeen; rw [hit]
          rw [e1, e2]
          exact left_shrinks ms seen e he
theorem copyM : CopyM Tryz.prog T 27 93 9 22 65 := by
  intro Bp bm clock ms w S es' h1 h2 h3 h4 h5 h6 h7 h8
  refine (copies Bp bm clock ms w S es' h1 h2 h3 h4 h5 h6 h7 h8).mono ?_
  rintro en w' ⟨a, seen, done, G1, S1, hI, h0, hen⟩
  refine ⟨_, done, rfl, hI.os, hI.le, done_all hI.dn h6.1 (fun m hm => ?_), rfl, rfl, hen⟩
  have := all_seen ms seen h0 m hm
  simpa using this
theorem copyEnters : ∀ args w, (callFunc 27 args).run Tryz.prog w = .ok (.enter 27 args) w := Go.Proofs.enters_of Tryz.func27 (by kernel_rfl) rfl
theorem copyOK : SymOK Tryz.prog T 27 (copyKC 93 9 22 65).dir := copyK_ok copyM mbT (by kernel_rfl) (by kernel_rfl) copyEnters
end Go.Proofs.YtoodhpoicinomaaGreat

namespace Go.Proofs.YtoodhpoicinomaaGreat
open Go.Vm
set_option maxRecDepth 100000
set_option linter.unusedVariables false
set_option linter.constructorNameAsVariable false
noncomputable def tmSr : PSr → Vm.St
  | .m l fr m h xs ks nk n i => ⟨[(0, .v 22 l), (1, .s fr), (2, .i .i64 m), (3, .i .i64 h), (9, .o 0 1), (16, .o 1 1), (17, .i .i64 n), (18, .i .i64 i)], (.n (some (.row 65 1 xs false false)) (.n (some (.row 9 1 ks nk false)) .e .e) .e), [], 2, some []⟩
noncomputable def ekSr (R : Type) (kx : Exit → Vm.St → Option R) : QSr → Option R
  | .o l fr m h xs ks nk n i => kx (.exit 0) ⟨[(0, .v 22 l), (1, .s fr), (2, .i .i64 m), (3, .i .i64 h), (9, .o 0 1), (16, .o 1 1), (17, .i .i64 n), (18, .i .i64 i)], (.n (some (.row 65 1 xs false false)) (.n (some (.row 9 1 ks nk false)) .e .e) .e), [], 1024, some []⟩
noncomputable def extSr : Vm.St → Option PSr
  | ⟨[(0, .v 22 l), (1, .s fr), (2, .i .i64 m), (3, .i .i64 h), (9, .o 0 1), (16, .o 1 1), (17, .i .i64 n), (18, .i .i64 i)], (.n (some (.row 65 1 xs false false)) (.n (some (.row 9 1 ks nk false)) .e .e) .e), [], 2, some []⟩ => some (.m l fr m h xs ks nk n i)
  | _ => none
theorem extSr_ok (τ : Vm.St) (x : PSr) (h : extSr τ = some x) : τ = tmSr x := by
  unfold extSr at h
  split at h <;> first | (cases h; rfl) | cases h
theorem stepSr (R : Type) (of : Nat → Option Ob) (x : PSr) (K : Vm.St → Option R) (kx : Exit → Vm.St → Option R) : execC T K15 (fun _ => none) false FU (ntOf Tryz.prog 23) of R (lp (codeOf Tryz.prog 23) 0) (tmSr x) (sortN 0 [999999, 0, 1, 2, 3, 9, 16, 17, 18] 1024 K kx) = BSr R x (fun x' => K (tmSr x')) (ekSr R kx) := by
  cases x with
  | m _ _ _ _ _ _ _ _ _ => kernel_rfl
noncomputable def HSr : LS := loopH T K15 (fun _ => none) (ntOf Tryz.prog 23) (lp (codeOf Tryz.prog 23) 0) 0 [999999, 0, 1, 2, 3, 9, 16, 17, 18] 1024 extSr BSr ekSr
theorem HSr_ok : LoopTk Tryz.prog T (ntOf Tryz.prog 23) 0 (lp (codeOf Tryz.prog 23) 0) HSr :=
  loopH_ok follows T_ok hK15 hS15 loNat_none (loopsOK_none _) tmSr extSr_ok stepSr
noncomputable def LoSr : Nat → LC := atN 0 [(3, HSr)]
theorem LoSr_ok : LoopsC Tryz.prog T 23 LoSr := loopsC_at 0 (List.forall_mem_cons.2 ⟨HSr_ok.1, fun _ h => by cases h⟩) 1 (by kernel_rfl) ⟨trivial, loI (s0 := HSr) (by kernel_rfl) HSr_ok⟩
theorem run_Sr (l : V) (n : List V) (m h : Int) : runFC Tryz.prog T K15 LoSr false FU 23 (List Rs) (mkAs T [22, 9, 3, 2] [l, .s n, .i m, .i h]) (fun _ => none) 0 (fun out => resC T true [.r 65] out) = scG 65 noE l n m h := by kernel_rfl
noncomputable def tab16 : List (Nat × SymC) := (23, pureS T true [22, 9, 3, 2] (gF scg (scr 65))) :: tab15
theorem tab16_ok : TabOK Tryz.prog T tab16 := by
  refine pure_conG (sh := true) (rk := [.r 65]) (d := 4) (fu := FU) (Lo := LoSr) (ds := [.slice DEnt, .str, .int .i64, .int .i64]) follows T_ok tab15_ok (by kernel_rfl) LoSr_ok 40 (by kernel_rfl) (fun xs hd hg => ?_)
  obtain ⟨a, b, c, d, rfl, ha, hb, hc, hd⟩ := hasL4 hd
  obtain ⟨ns, rfl, _⟩ := hb
  obtain ⟨m, rfl, _⟩ := hc
  obtain ⟨h, rfl, _⟩ : (D.int .i64).has d := by assumption
  exact (run_Sr a _ m h).trans (scG_law hg)
noncomputable def K16 : KC := runAC Tryz.prog T tab16 false FU 4
theorem hK16 : K16.nat := runAC_nat tab16_ok 4
theorem hS16 : KOK Tryz.prog T K16.dir := runAC_ok follows T_ok tab16_ok 4
noncomputable def tmEr : PEr → Vm.St
  | .m l h xs ks nk n i => ⟨[(0, .v 22 l), (1, .i .i64 h), (5, .o 0 1), (11, .o 1 1), (12, .i .i64 n), (13, .i .i64 i)], (.n (some (.row 9 1 xs false false)) (.n (some (.row 9 1 ks nk false)) .e .e) .e), [], 2, some []⟩
noncomputable def ekEr (R : Type) (kx : Exit → Vm.St → Option R) : QEr → Option R
  | .o l h xs ks nk n i => kx (.exit 0) ⟨[(0, .v 22 l), (1, .i .i64 h), (5, .o 0 1), (11, .o 1 1), (12, .i .i64 n), (13, .i .i64 i)], (.n (some (.row 9 1 xs false false)) (.n (some (.row 9 1 ks nk false)) .e .e) .e), [], 1024, some []⟩
noncomputable def extEr : Vm.St → Option PEr
  | ⟨[(0, .v 22 l), (1, .i .i64 h), (5, .o 0 1), (11, .o 1 1), (12, .i .i64 n), (13, .i .i64 i)], (.n (some (.row 9 1 xs false false)) (.n (some (.row 9 1 ks nk false)) .e .e) .e), [], 2, some []⟩ => some (.m l h xs ks nk n i)
  | _ => none
theorem extEr_ok (τ : Vm.St) (x : PEr) (h : extEr τ = some x) : τ = tmEr x := by
  unfold extEr at h
  split at h <;> first | (cases h; rfl) | cases h
theorem stepEr (R : Type) (of : Nat → Option Ob) (x : PEr) (K : Vm.St → Option R) (kx : Exit → Vm.St → Option R) : execC T K16 (fun _ => none) false FU (ntOf Tryz.prog 26) of R (lp (codeOf Tryz.prog 26) 0) (tmEr x) (sortN 0 [999999, 0, 1, 5, 11, 12, 13] 1024 K kx) = BEr R x (fun x' => K (tmEr x')) (ekEr R kx) := by
  cases x with
  | m _ _ _ _ _ _ _ => kernel_rfl
noncomputable def HEr : LS := loopH T K16 (fun _ => none) (ntOf Tryz.prog 26) (lp (codeOf Tryz.prog 26) 0) 0 [999999, 0, 1, 5, 11, 12, 13] 1024 extEr BEr ekEr
theorem HEr_ok : LoopTk Tryz.prog T (ntOf Tryz.prog 26) 0 (lp (codeOf Tryz.prog 26) 0) HEr :=
  loopH_ok follows T_ok hK16 hS16 loNat_none (loopsOK_none _) tmEr extEr_ok stepEr
noncomputable def LoEr : Nat → LC := atN 0 [(3, HEr)]
theorem LoEr_ok : LoopsC Tryz.prog T 26 LoEr := loopsC_at 0 (List.forall_mem_cons.2 ⟨HEr_ok.1, fun _ h => by cases h⟩) 1 (by kernel_rfl) ⟨trivial, loI (s0 := HEr) (by kernel_rfl) HEr_ok⟩
theorem run_Er (l : V) (h : Int) : runFC Tryz.prog T K16 LoEr false FU 26 (List Rs) (mkAs T [22, 2] [l, .i h]) (fun _ => none) 0 (fun out => resC T true [.r 9] out) = edG 9 l h := by kernel_rfl
noncomputable def tab17 : List (Nat × SymC) := (26, pureS T true [22, 2] (gF edg (edr 9))) :: tab16
theorem tab17_ok : TabOK Tryz.prog T tab17 := by
  refine pure_conG (sh := true) (rk := [.r 9]) (d := 4) (fu := FU) (Lo := LoEr) (ds := [.slice DEnt, .int .i64]) follows T_ok tab16_ok (by kernel_rfl) LoEr_ok 40 (by kernel_rfl) (fun xs hd hg => ?_)
  obtain ⟨a, b, rfl, ha, hb⟩ := hasL2 hd
  obtain ⟨h, rfl, _⟩ := hb
  exact (run_Er a h).trans (edG_law hg)
noncomputable def K17 : KC := runAC Tryz.prog T tab17 false FU 4
theorem hK17 : K17.nat := runAC_nat tab17_ok 4
theorem hS17 : KOK Tryz.prog T K17.dir := runAC_ok follows T_ok tab17_ok 4
noncomputable def tmAr : PAr → Vm.St
  | .m l xs ks nk n i => ⟨[(0, .v 22 l), (3, .o 0 1), (8, .o 1 1), (9, .i .i64 n), (10, .i .i64 i)], (.n (some (.row 65 1 xs false false)) (.n (some (.row 9 1 ks nk false)) .e .e) .e), [], 2, some []⟩
noncomputable def ekAr (R : Type) (kx : Exit → Vm.St → Option R) : QAr → Option R
  | .o l xs ks nk n i => kx (.exit 0) ⟨[(0, .v 22 l), (3, .o 0 1), (8, .o 1 1), (9, .i .i64 n), (10, .i .i64 i)], (.n (some (.row 65 1 xs false false)) (.n (some (.row 9 1 ks nk false)) .e .e) .e), [], 1024, some []⟩
noncomputable def extAr : Vm.St → Option PAr
  | ⟨[(0, .v 22 l), (3, .o 0 1), (8, .o 1 1), (9, .i .i64 n), (10, .i .i64 i)], (.n (some (.row 65 1 xs false false)) (.n (some (.row 9 1 ks nk false)) .e .e) .e), [], 2, some []⟩ => some (.m l xs ks nk n i)
  | _ => none
theorem extAr_ok (τ : Vm.St) (x : PAr) (h : extAr τ = some x) : τ = tmAr x := by
  unfold extAr at h
  split at h <;> first | (cases h; rfl) | cases h
theorem stepAr (R : Type) (of : Nat → Option Ob) (x : PAr) (K : Vm.St → Option R) (kx : Exit → Vm.St → Option R) : execC T K17 (fun _ => none) false FU (ntOf Tryz.prog 17) of R (lp (codeOf Tryz.prog 17) 0) (tmAr x) (sortN 0 [999999, 0, 3, 8, 9, 10] 1024 K kx) = BAr R x (fun x' => K (tmAr x')) (ekAr R kx) := by
  cases x with
  | m _ _ _ _ _ _ => kernel_rfl
noncomputable def HAr : LS := loopH T K17 (fun _ => none) (ntOf Tryz.prog 17) (lp (codeOf Tryz.prog 17) 0) 0 [999999, 0, 3, 8, 9, 10] 1024 extAr BAr ekAr
theorem HAr_ok : LoopTk Tryz.prog T (ntOf Tryz.prog 17) 0 (lp (codeOf Tryz.prog 17) 0) HAr :=
  loopH_ok follows T_ok hK17 hS17 loNat_none (loopsOK_none _) tmAr extAr_ok stepAr
noncomputable def LoAr : Nat → LC := atN 0 [(3, HAr)]
theorem LoAr_ok : LoopsC Tryz.prog T 17 LoAr := loopsC_at 0 (List.forall_mem_cons.2 ⟨HAr_ok.1, fun _ h => by cases h⟩) 1 (by kernel_rfl) ⟨trivial, loI (s0 := HAr) (by kernel_rfl) HAr_ok⟩
theorem run_Ar (l : V) : runFC Tryz.prog T K17 LoAr false FU 17 (List Rs) (mkAs T [22] [l]) (fun _ => none) 0 (fun out => resC T true [.r 65] out) = alG 65 noE l := by kernel_rfl
noncomputable def tab18 : List (Nat × SymC) := (17, pureS T true [22] (gF alg (alr 65))) :: tab17
theorem tab18_ok : TabOK Tryz.prog T tab18 := by
  refine pure_conG (sh := true) (rk := [.r 65]) (d := 4) (fu := FU) (Lo := LoAr) (ds := [.slice DEnt]) follows T_ok tab17_ok (by kernel_rfl) LoAr_ok 40 (by kernel_rfl) (fun xs hd hg => ?_)
  obtain ⟨a, rfl, ha⟩ := hasL1 hd
  exact (run_Ar a).trans (alG_law hg)
noncomputable def K18 : KC := runAC Tryz.prog T tab18 false FU 4
theorem hK18 : K18.nat := runAC_nat tab18_ok 4
theorem hS18 : KOK Tryz.prog T K18.dir := runAC_ok follows T_ok tab18_ok 4
noncomputable def tmNn : PNn → Vm.St
  | .m l es n i => ⟨[(3, .p 0 93 []), (9, .v 22 l), (10, .i .i64 n), (11, .i .i64 i)], (.n (some (.box 93 (.g 93 [.m 1]) false)) (.n (some (.sm 9 22 65 es none)) .e .e) .e), [], 2, some []⟩
noncomputable def ekNn (R : Type) (kx : Exit → Vm.St → Option R) : QNn → Option R
  | .o l es n i => kx (.exit 0) ⟨[(3, .p 0 93 []), (9, .v 22 l), (10, .i .i64 n), (11, .i .i64 i)], (.n (some (.box 93 (.g 93 [.m 1]) false)) (.n (some (.sm 9 22 65 es none)) .e .e) .e), [], 64, some []⟩
noncomputable def extNn : Vm.St → Option PNn
  | ⟨[(3, .p 0 93 []), (9, .v 22 l), (10, .i .i64 n), (11, .i .i64 i)], (.n (some (.box 93 (.g 93 [.m 1]) false)) (.n (some (.sm 9 22 65 es none)) .e .e) .e), [], 2, some []⟩ => some (.m l es n i)
  | _ => none
theorem extNn_ok (τ : Vm.St) (x : PNn) (h : extNn τ = some x) : τ = tmNn x := by
  unfold extNn at h
  split at h <;> first | (cases h; rfl) | cases h
theorem stepNn (R : Type) (of : Nat → Option Ob) (x : PNn) (K : Vm.St → Option R) (kx : Exit → Vm.St → Option R) : execC T K18 (fun _ => none) false FU (ntOf Tryz.prog 10) of R (lp (codeOf Tryz.prog 10) 0) (tmNn x) (sortN 0 [999999, 3, 9, 10, 11] 64 K kx) = BNn R x (fun x' => K (tmNn x')) (ekNn R kx) := by
  cases x with
  | m _ _ _ _ => kernel_rfl
noncomputable def HNn : LS := loopH T K18 (fun _ => none) (ntOf Tryz.prog 10) (lp (codeOf Tryz.prog 10) 0) 0 [999999, 3, 9, 10, 11] 64 extNn BNn ekNn
theorem HNn_ok : LoopTk Tryz.prog T (ntOf Tryz.prog 10) 0 (lp (codeOf Tryz.prog 10) 0) HNn :=
  loopH_ok follows T_ok hK18 hS18 loNat_none (loopsOK_none _) tmNn extNn_ok stepNn
noncomputable def LoNn : Nat → LC := atN 0 [(3, HNn)]
theorem LoNn_ok : LoopsC Tryz.prog T 10 LoNn := loopsC_at 0 (List.forall_mem_cons.2 ⟨HNn_ok.1, fun _ h => by cases h⟩) 1 (by kernel_rfl) ⟨trivial, loI (s0 := HNn) (by kernel_rfl) HNn_ok⟩
noncomputable def tmSw : PSw → Vm.St
  | .m es fr m h xs nl ks nk n i => ⟨[(0, .p 0 93 []), (1, .s fr), (2, .i .i64 m), (3, .i .i64 h), (9, .o 2 1), (15, .o 3 1), (16, .i .i64 n), (17, .i .i64 i)], (.n (some (.box 93 (.g 93 [.m 1]) false)) (.n (some (.sm 9 22 65 es none)) (.n (some (.row 9 1 ks nk false)) .e .e) .e) (.n (some (.row 65 1 xs nl false)) .e .e)), [1, 0], 4, some []⟩
noncomputable def ekSw (R : Type) (kx : Exit → Vm.St → Option R) : QSw → Option R
  | .o es fr m h xs nl ks nk n i => kx (.exit 0) ⟨[(0, .p 0 93 []), (1, .s fr), (2, .i .i64 m), (3, .i .i64 h), (9, .o 2 1), (15, .o 3 1), (16, .i .i64 n), (17, .i .i64 i)], (.n (some (.box 93 (.g 93 [.m 1]) false)) (.n (some (.sm 9 22 65 es none)) (.n (some (.row 9 1 ks nk false)) .e .e) .e) (.n (some (.row 65 1 xs nl false)) .e .e)), [1, 0], 1024, some []⟩
noncomputable def extSw : Vm.St → Option PSw
  | ⟨[(0, .p 0 93 []), (1, .s fr), (2, .i .i64 m), (3, .i .i64 h), (9, .o 2 1), (15, .o 3 1), (16, .i .i64 n), (17, .i .i64 i)], (.n (some (.box 93 (.g 93 [.m 1]) false)) (.n (some (.sm 9 22 65 es none)) (.n (some (.row 9 1 ks nk false)) .e .e) .e) (.n (some (.row 65 1 xs nl false)) .e .e)), [1, 0], 4, some []⟩ => some (.m es fr m h xs nl ks nk n i)
  | _ => none
theorem extSw_ok (τ : Vm.St) (x : PSw) (h : extSw τ = some x) : τ = tmSw x := by
  unfold extSw at h
  split at h <;> first | (cases h; rfl) | cases h
theorem stepSw (R : Type) (of : Nat → Option Ob) (x : PSw) (K : Vm.St → Option R) (kx : Exit → Vm.St → Option R) : execC T K18 (fun _ => none) false FU (ntOf Tryz.prog 22) of R (lp (codeOf Tryz.prog 22) 0) (tmSw x) (sortN 2 [999999, 0, 1, 2, 3, 9, 15, 16, 17] 1024 K kx) = BSw R x (fun x' => K (tmSw x')) (ekSw R kx) := by
  cases x with
  | m _ _ _ _ _ _ _ _ _ _ => kernel_rfl
noncomputable def HSw : LS := loopH T K18 (fun _ => none) (ntOf Tryz.prog 22) (lp (codeOf Tryz.prog 22) 0) 2 [999999, 0, 1, 2, 3, 9, 15, 16, 17] 1024 extSw BSw ekSw
theorem HSw_ok : LoopTk Tryz.prog T (ntOf Tryz.prog 22) 2 (lp (codeOf Tryz.prog 22) 0) HSw :=
  loopH_ok follows T_ok hK18 hS18 loNat_none (loopsOK_none _) tmSw extSw_ok stepSw
noncomputable def LoSw : Nat → LC := atN 2 [(3, HSw)]
theorem LoSw_ok : LoopsC Tryz.prog T 22 LoSw := loopsC_at 2 (List.forall_mem_cons.2 ⟨HSw_ok.1, fun _ h => by cases h⟩) 1 (by kernel_rfl) ⟨trivial, loI (s0 := HSw) (by kernel_rfl) HSw_ok⟩
noncomputable def tmEw : PEw → Vm.St
  | .m es h xs nl ks nk n i => ⟨[(0, .p 0 93 []), (1, .i .i64 h), (5, .o 2 1), (11, .o 3 1), (12, .i .i64 n), (13, .i .i64 i)], (.n (some (.box 93 (.g 93 [.m 1]) false)) (.n (some (.sm 9 22 65 es none)) (.n (some (.row 9 1 ks nk false)) .e .e) .e) (.n (some (.row 9 1 xs nl false)) .e .e)), [1, 0], 4, some []⟩
noncomputable def ekEw (R : Type) (kx : Exit → Vm.St → Option R) : QEw → Option R
  | .o es h xs nl ks nk n i => kx (.exit 0) ⟨[(0, .p 0 93 []), (1, .i .i64 h), (5, .o 2 1), (11, .o 3 1), (12, .i .i64 n), (13, .i .i64 i)], (.n (some (.box 93 (.g 93 [.m 1]) false)) (.n (some (.sm 9 22 65 es none)) (.n (some (.row 9 1 ks nk false)) .e .e) .e) (.n (some (.row 9 1 xs nl false)) .e .e)), [1, 0], 1024, some []⟩
noncomputable def extEw : Vm.St → Option PEw
  | ⟨[(0, .p 0 93 []), (1, .i .i64 h), (5, .o 2 1), (11, .o 3 1), (12, .i .i64 n), (13, .i .i64 i)], (.n (some (.box 93 (.g 93 [.m 1]) false)) (.n (some (.sm 9 22 65 es none)) (.n (some (.row 9 1 ks nk false)) .e .e) .e) (.n (some (.row 9 1 xs nl false)) .e .e)), [1, 0], 4, some []⟩ => some (.m es h xs nl ks nk n i)
  | _ => none
theorem extEw_ok (τ : Vm.St) (x : PEw) (h : extEw τ = some x) : τ = tmEw x := by
  unfold extEw at h
  split at h <;> first | (cases h; rfl) | cases h
theorem stepEw (R : Type) (of : Nat → Option Ob) (x : PEw) (K : Vm.St → Option R) (kx : Exit → Vm.St → Option R) : execC T K18 (fun _ => none) false FU (ntOf Tryz.prog 25) of R (lp (codeOf Tryz.prog 25) 0) (tmEw x) (sortN 2 [999999, 0, 1, 5, 11, 12, 13] 1024 K kx) = BEw R x (fun x' => K (tmEw x')) (ekEw R kx) := by
  cases x with
  | m _ _ _ _ _ _ _ _ => kernel_rfl
noncomputable def HEw : LS := loopH T K18 (fun _ => none) (ntOf Tryz.prog 25) (lp (codeOf Tryz.prog 25) 0) 2 [999999, 0, 1, 5, 11, 12, 13] 1024 extEw BEw ekEw
theorem HEw_ok : LoopTk Tryz.prog T (ntOf Tryz.prog 25) 2 (lp (codeOf Tryz.prog 25) 0) HEw :=
  loopH_ok follows T_ok hK18 hS18 loNat_none (loopsOK_none _) tmEw extEw_ok stepEw
noncomputable def LoEw : Nat → LC := atN 2 [(3, HEw)]
theorem LoEw_ok : LoopsC Tryz.prog T 25 LoEw := loopsC_at 2 (List.forall_mem_cons.2 ⟨HEw_ok.1, fun _ h => by cases h⟩) 1 (by kernel_rfl) ⟨trivial, loI (s0 := HEw) (by kernel_rfl) HEw_ok⟩
noncomputable def tmAw : PAw → Vm.St
  | .m es xs nl ks nk n i => ⟨[(0, .p 0 93 []), (3, .o 2 1), (7, .o 3 1), (8, .i .i64 n), (9, .i .i64 i)], (.n (some (.box 93 (.g 93 [.m 1]) false)) (.n (some (.sm 9 22 65 es none)) (.n (some (.row 9 1 ks nk false)) .e .e) .e) (.n (some (.row 65 1 xs nl false)) .e .e)), [1, 0], 4, some []⟩
noncomputable def ekAw (R : Type) (kx : Exit → Vm.St → Option R) : QAw → Option R
  | .o es xs nl ks nk n i => kx (.exit 0) ⟨[(0, .p 0 93 []), (3, .o 2 1), (7, .o 3 1), (8, .i .i64 n), (9, .i .i64 i)], (.n (some (.box 93 (.g 93 [.m 1]) false)) (.n (some (.sm 9 22 65 es none)) (.n (some (.row 9 1 ks nk false)) .e .e) .e) (.n (some (.row 65 1 xs nl false)) .e .e)), [1, 0], 1024, some []⟩
noncomputable def extAw : Vm.St → Option PAw
  | ⟨[(0, .p 0 93 []), (3, .o 2 1), (7, .o 3 1), (8, .i .i64 n), (9, .i .i64 i)], (.n (some (.box 93 (.g 93 [.m 1]) false)) (.n (some (.sm 9 22 65 es none)) (.n (some (.row 9 1 ks nk false)) .e .e) .e) (.n (some (.row 65 1 xs nl false)) .e .e)), [1, 0], 4, some []⟩ => some (.m es xs nl ks nk n i)
  | _ => none
theorem extAw_ok (τ : Vm.St) (x : PAw) (h : extAw τ = some x) : τ = tmAw x := by
  unfold extAw at h
  split at h <;> first | (cases h; rfl) | cases h
theorem stepAw (R : Type) (of : Nat → Option Ob) (x : PAw) (K : Vm.St → Option R) (kx : Exit → Vm.St → Option R) : execC T K18 (fun _ => none) false FU (ntOf Tryz.prog 16) of R (lp (codeOf Tryz.prog 16) 0) (tmAw x) (sortN 2 [999999, 0, 3, 7, 8, 9] 1024 K kx) = BAw R x (fun x' => K (tmAw x')) (ekAw R kx) := by
  cases x with
  | m _ _ _ _ _ _ _ => kernel_rfl
noncomputable def HAw : LS := loopH T K18 (fun _ => none) (ntOf Tryz.prog 16) (lp (codeOf Tryz.prog 16) 0) 2 [999999, 0, 3, 7, 8, 9] 1024 extAw BAw ekAw
theorem HAw_ok : LoopTk Tryz.prog T (ntOf Tryz.prog 16) 2 (lp (codeOf Tryz.prog 16) 0) HAw :=
  loopH_ok follows T_ok hK18 hS18 loNat_none (loopsOK_none _) tmAw extAw_ok stepAw
noncomputable def LoAw : Nat → LC := atN 2 [(3, HAw)]
theorem LoAw_ok : LoopsC Tryz.prog T 16 LoAw := loopsC_at 2 (List.forall_mem_cons.2 ⟨HAw_ok.1, fun _ h => by cases h⟩) 1 (by kernel_rfl) ⟨trivial, loI (s0 := HAw) (by kernel_rfl) HAw_ok⟩
noncomputable def tab19 : List (Nat × SymC) := (10, trS (runPC Tryz.prog T K18 LoNn false FU 10)) :: tab18
theorem tab19_ok : TabOK Tryz.prog T tab19 := tab18_ok.cons (trS_nat (runPC_nat hK18 LoNn_ok.nat)) (trS_ok (runPC_nat hK18 LoNn_ok.nat) (runPC_ok follows T_ok hK18 hS18 LoNn_ok.nat LoNn_ok.ok).at_)
noncomputable def tab20 : List (Nat × SymC) := (22, trS (runPC Tryz.prog T K18 LoSw false FU 22)) :: tab19
theorem tab20_ok : TabOK Tryz.prog T tab20 := tab19_ok.cons (trS_nat (runPC_nat hK18 LoSw_ok.nat)) (trS_ok (runPC_nat hK18 LoSw_ok.nat) (runPC_ok follows T_ok hK18 hS18 LoSw_ok.nat LoSw_ok.ok).at_)
noncomputable def tab21 : List (Nat × SymC) := (25, trS (runPC Tryz.prog T K18 LoEw false FU 25)) :: tab20
theorem tab21_ok : TabOK Tryz.prog T tab21 := tab20_ok.cons (trS_nat (runPC_nat hK18 LoEw_ok.nat)) (trS_ok (runPC_nat hK18 LoEw_ok.nat) (runPC_ok follows T_ok hK18 hS18 LoEw_ok.nat LoEw_ok.ok).at_)
noncomputable def tab22 : List (Nat × SymC) := (16, trS (runPC Tryz.prog T K18 LoAw false FU 16)) :: tab21
theorem tab22_ok : TabOK Tryz.prog T tab22 := tab21_ok.cons (trS_nat (runPC_nat hK18 LoAw_ok.nat)) (trS_ok (runPC_nat hK18 LoAw_ok.nat) (runPC_ok follows T_ok hK18 hS18 LoAw_ok.nat LoAw_ok.ok).at_)
noncomputable def K22 : KC := runAC Tryz.prog T tab22 false FU 4
theorem hK22 : K22.nat := runAC_nat tab22_ok 4
theorem hS22 : KOK Tryz.prog T K22.dir := runAC_ok follows T_ok tab22_ok 4
end Go.Proofs.YtoodhpoicinomaaGreat

namespace Go.Proofs.YtoodhpoicinomaaGreat
open Go.Vm
set_option maxRecDepth 100000
set_option linter.unusedVariables false
noncomputable def tabA0 : List (Nat × Sym) := [(112, (pureS T false [172, 37] (seeF (Fmx 172))).dir), (67, (pureS T false [37] (seeF (Fsm 34))).dir), (60, sortK 79 9)]
theorem tabA0_ok : AllS Tryz.prog T tabA0 := ⟨TabOK.see (TabOK.at tab3_ok (by kernel_rfl)), TabOK.see (TabOK.at tab5_ok (by kernel_rfl)), sortK_ok T_ok sortedKeys (by kernel_rfl) (by kernel_rfl) (enters_of Tryz.func60 (by kernel_rfl) rfl), trivial⟩
theorem alive_run : ob (runZ Tryz.prog T tabA0 100000 60 7 (mkAs T [] []) (fun _ => none) 0) (fun out => resC T true [.d 4] out) = some [.d 4 (.b true)] := by kernel_rfl
noncomputable def aliveC : SymC := pureS T true [] (gF (fun _ => true) (fun _ => [.d 4 (.b true)]))
theorem aliveC_nat : aliveC.nat := pureS_nat (gF_nat _ _)
theorem alive : SymOK Tryz.prog T 7 aliveC.dir :=
  pure_ok (s := ofSym (runZ Tryz.prog T tabA0 100000 60 7)) (ofSym_nat _) (by rw [ofSym_dir]; exact runZ_ok follows T_ok tabA0_ok) (rk := [.d 4]) (gF_nat _ _) rfl (fun xs rs htv hrs => by
    have hl := htv.len
    cases xs with
    | cons _ _ => cases hl
    | nil =>
      obtain ⟨_, rfl⟩ := gF_at hrs
      exact alive_run)
end Go.Proofs.YtoodhpoicinomaaGreat

namespace Go.Proofs.YtoodhpoicinomaaGreat
open Go.Vm
set_option maxRecDepth 100000
set_option linter.unusedVariables false
def dV : V := .l [.i 3, .s [.i 100, .i 47, .i 97], .s [], .s [], .l [.i 0, .i 0, .i 0, .i 0, .i 0, .i 0, .i 0, .i 0, .i 0, .i 0, .i 0, .i 0, .i 0, .i 0, .i 0, .i 0, .i 0, .i 0, .i 0, .i 0]]
def oV : V := .l [.i 1000000, .l [.i 83, .i 3, .i 100, .i 47, .i 97, .i 0, .i 109, .i 117, .i 81]]
def tV : V := .l [.i 0, .n, .l [oV], .i 0]
def hV : V := .l [.i 60, .i 147, .i 143, .i 66, .i 145, .i 61, .i 16, .i 139, .i 146, .i 238, .i 48, .i 102, .i 83, .i 169, .i 41, .i 112, .i 21, .i 33, .i 60, .i 179, .i 26, .i 104, .i 186, .i 27, .i 9, .i 237, .i 33, .i 138, .i 25, .i 48, .i 103, .i 210]
theorem locked_run : ob (runZ Tryz.prog T tabA0 100000 60 32 (mkAs T [49] [dV]) (fun _ => none) 0) (fun out => resC T true [.d 39] out) = some [.d 39 oV] := by kernel_rfl
noncomputable def lockedC : SymC := pureS T true [49] (gF (fun xs => veqL xs [dV]) (fun _ => [.d 39 oV]))
theorem lockedC_nat : lockedC.nat := pureS_nat (gF_nat _ _)
theorem locked_ok : SymOK Tryz.prog T 32 lockedC.dir :=
  pure_ok (s := ofSym (runZ Tryz.prog T tabA0 100000 60 32)) (ofSym_nat _) (by rw [ofSym_dir]; exact runZ_ok follows T_ok tabA0_ok) (rk := [.d 39]) (gF_nat _ _) rfl (fun xs rs htv hrs => by
    obtain ⟨hg, rfl⟩ := gF_at hrs
    have hx := (veqL_iff _ _).1 hg
    rw [hx]
    exact locked_run)
theorem told_run : ob (runZ Tryz.prog T tabA0 100000 60 13 (mkAs T [27] [tV]) (fun _ => none) 0) (fun out => resC T true [.d 49, .d 3, .d 50] out) = some [.d 49 dV, .d 3 (.i 0), .d 50 (.i 0)] := by kernel_rfl
noncomputable def toldC : SymC := pureS T true [27] (gF (fun xs => veqL xs [tV]) (fun _ => [.d 49 dV, .d 3 (.i 0), .d 50 (.i 0)]))
theorem toldC_nat : toldC.nat := pureS_nat (gF_nat _ _)
theorem told_ok : SymOK Tryz.prog T 13 toldC.dir :=
  pure_ok (s := ofSym (runZ Tryz.prog T tabA0 100000 60 13)) (ofSym_nat _) (by rw [ofSym_dir]; exact runZ_ok follows T_ok tabA0_ok) (rk := [.d 49, .d 3, .d 50]) (gF_nat _ _) rfl (fun xs rs htv hrs => by
    obtain ⟨hg, rfl⟩ := gF_at hrs
    have hx := (veqL_iff _ _).1 hg
    rw [hx]
    exact told_run)
theorem txId_run : ob (runZ Tryz.prog T tabA0 100000 60 47 (mkAs T [27] [tV]) (fun _ => none) 0) (fun out => resC T true [.d 34] out) = some [.d 34 hV] := by kernel_rfl
noncomputable def txIdC : SymC := pureS T true [27] (gF (fun xs => veqL xs [tV]) (fun _ => [.d 34 hV]))
theorem txIdC_nat : txIdC.nat := pureS_nat (gF_nat _ _)
theorem txId_ok : SymOK Tryz.prog T 47 txIdC.dir :=
  pure_ok (s := ofSym (runZ Tryz.prog T tabA0 100000 60 47)) (ofSym_nat _) (by rw [ofSym_dir]; exact runZ_ok follows T_ok tabA0_ok) (rk := [.d 34]) (gF_nat _ _) rfl (fun xs rs htv hrs => by
    obtain ⟨hg, rfl⟩ := gF_at hrs
    have hx := (veqL_iff _ _).1 hg
    rw [hx]
    exact txId_run)
end Go.Proofs.YtoodhpoicinomaaGreat

namespace Go.Proofs.YtoodhpoicinomaaGreat
open Go.Vm
set_option maxRecDepth 100000
set_option linter.unusedVariables false
set_option linter.constructorNameAsVariable false
noncomputable def tab23 : List (Nat × SymC) := (27, copyKC 93 9 22 65) :: tab22
theorem tab23_ok : TabOK Tryz.prog T tab23 := tab22_ok.cons (copyKC_nat _ _ _ _) copyOK
noncomputable def tab24 : List (Nat × SymC) := (47, txIdC) :: tab23
theorem tab24_ok : TabOK Tryz.prog T tab24 := tab23_ok.cons (txIdC_nat) txId_ok
noncomputable def tab25 : List (Nat × SymC) := (32, lockedC) :: tab24
theorem tab25_ok : TabOK Tryz.prog T tab25 := tab24_ok.cons (lockedC_nat) locked_ok
noncomputable def tab26 : List (Nat × SymC) := (13, toldC) :: tab25
theorem tab26_ok : TabOK Tryz.prog T tab26 := tab25_ok.cons (toldC_nat) told_ok
noncomputable def tab27 : List (Nat × SymC) := (7, aliveC) :: tab26
theorem tab27_ok : TabOK Tryz.prog T tab27 := tab26_ok.cons aliveC_nat alive
noncomputable def K27 : KC := runAC Tryz.prog T tab27 false FU 4
theorem hK27 : K27.nat := runAC_nat tab27_ok 4
theorem hS27 : KOK Tryz.prog T K27.dir := runAC_ok follows T_ok tab27_ok 4
noncomputable def tmLs : PLs → Vm.St
  | .m l fr v2 h es e2 xs al na n i => ⟨[(0, .v 22 l), (1, .s fr), (5, .p 0 63 []), (6, .b false), (7, .i .i64 h), (8, .p 1 93 []), (9, .p 3 93 []), (11, .o 5 1), (54, .o 6 1), (55, .i .i64 n), (56, .i .i64 i)], (.n (some (.box 63 (.v 63 v2) false)) (.n (some (.box 93 (.g 93 [.m 2]) false)) (.n (some (.box 93 (.g 93 [.m 4]) false)) .e .e) (.n (some (.row 65 1 xs false false)) .e .e)) (.n (some (.sm 9 22 65 es none)) (.n (some (.sm 9 22 65 e2 none)) .e .e) (.n (some (.row 65 1 al na false)) .e .e))), [], 7, some []⟩
noncomputable def ekLs (R : Type) (kx : Exit → Vm.St → Option R) : QLs → Option R
  | .o l fr v2 h es e2 xs al na n i => kx (.exit 0) ⟨[(0, .v 22 l), (1, .s fr), (5, .p 0 63 []), (6, .b false), (7, .i .i64 h), (8, .p 1 93 []), (9, .p 3 93 []), (11, .o 5 1), (54, .o 6 1), (55, .i .i64 n), (56, .i .i64 i)], (.n (some (.box 63 (.v 63 v2) false)) (.n (some (.box 93 (.g 93 [.m 2]) false)) (.n (some (.box 93 (.g 93 [.m 4]) false)) .e .e) (.n (some (.row 65 1 xs false false)) .e .e)) (.n (some (.sm 9 22 65 es none)) (.n (some (.sm 9 22 65 e2 none)) .e .e) (.n (some (.row 65 1 al na false)) .e .e))), [], 8192, some []⟩
noncomputable def extLs : Vm.St → Option PLs
  | ⟨[(0, .v 22 l), (1, .s fr), (5, .p 0 63 []), (6, .b false), (7, .i .i64 h), (8, .p 1 93 []), (9, .p 3 93 []), (11, .o 5 1), (54, .o 6 1), (55, .i .i64 n), (56, .i .i64 i)], (.n (some (.box 63 (.v 63 v2) false)) (.n (some (.box 93 (.g 93 [.m 2]) false)) (.n (some (.box 93 (.g 93 [.m 4]) false)) .e .e) (.n (some (.row 65 1 xs false false)) .e .e)) (.n (some (.sm 9 22 65 es none)) (.n (some (.sm 9 22 65 e2 none)) .e .e) (.n (some (.row 65 1 al na false)) .e .e))), [], 7, some []⟩ => some (.m l fr v2 h es e2 xs al na n i)
  | _ => none
theorem extLs_ok (τ : Vm.St) (x : PLs) (h : extLs τ = some x) : τ = tmLs x := by
  unfold extLs at h
  split at h <;> first | (cases h; rfl) | cases h
theorem stepLs (R : Type) (of : Nat → Option Ob) (x : PLs) (K : Vm.St → Option R) (kx : Exit → Vm.St → Option R) : execC T K27 (fun _ => none) false FU (ntOf Tryz.prog 6) of R (lp (codeOf Tryz.prog 6) 0) (tmLs x) (sortN 0 [999999, 0, 1, 5, 6, 7, 8, 9, 11, 54, 55, 56] 8192 K kx) = BLs R x (fun x' => K (tmLs x')) (ekLs R kx) := by
  cases x with
  | m _ _ _ _ _ _ _ _ _ _ _ => kernel_rfl
noncomputable def HLs : LS := loopH T K27 (fun _ => none) (ntOf Tryz.prog 6) (lp (codeOf Tryz.prog 6) 0) 0 [999999, 0, 1, 5, 6, 7, 8, 9, 11, 54, 55, 56] 8192 extLs BLs ekLs
theorem HLs_ok : LoopTk Tryz.prog T (ntOf Tryz.prog 6) 0 (lp (codeOf Tryz.prog 6) 0) HLs :=
  loopH_ok follows T_ok hK27 hS27 loNat_none (loopsOK_none _) tmLs extLs_ok stepLs
noncomputable def LoLs : Nat → LC := atN 0 [(12, HLs)]
theorem LoLs_ok : LoopsC Tryz.prog T 6 LoLs := loopsC_at 0 (List.forall_mem_cons.2 ⟨HLs_ok.1, fun _ h => by cases h⟩) 1 (by kernel_rfl) ⟨trivial, loI (s0 := HLs) (by kernel_rfl) HLs_ok⟩
theorem run_scans (l : V) (nm : List V) (a m : Int) : runFC Tryz.prog T K27 LoLs false FU 6 Unit (mkAs T [22, 9, 63] [l, .s nm, .l [.i a, .i m]]) (fun _ => none) 0 tellT = scansG 9 hV l nm a m := by kernel_rfl
theorem law_run (xs : List V) (hd : D.hasL [.slice DEnt, .str, .arr 2 (.int .i64)] xs) (hm : D.smL [.slice DEnt, .str, .arr 2 (.int .i64)] xs) : runFC Tryz.prog T (runAC Tryz.prog T tab27 false FU 4) LoLs false FU 6 Unit (mkAs T [22, 9, 63] xs) (fun _ => none) 0 tellT = some () := by
  obtain ⟨l, t, c, rfl, hl, ⟨ns, rfl, _⟩, ys, rfl, hy, hz⟩ := hasL3 hd
  match ys, hy, hz, hm with
  | [a, b], _, hz, hm =>
    obtain ⟨a, rfl, _⟩ := hz a (by simp)
    obtain ⟨b, rfl, _⟩ := hz b (by simp)
    obtain ⟨h1, h2, _⟩ := hm
    exact (run_scans l _ a b).trans (scans_law hl h1 h2)
theorem law_nat : (runFC Tryz.prog T (runAC Tryz.prog T tab27 false FU 4) LoLs false FU 6).nat := runFC_nat (runAC_nat tab27_ok 4) LoLs_ok.nat
theorem law_ok : SymOK Tryz.prog T 6 (runFC Tryz.prog T (runAC Tryz.prog T tab27 false FU 4) LoLs false FU 6).dir := runFC_ok follows T_ok (runAC_nat tab27_ok 4) (runAC_ok follows T_ok tab27_ok 4) LoLs_ok.nat LoLs_ok.ok
end Go.Proofs.YtoodhpoicinomaaGreat
end

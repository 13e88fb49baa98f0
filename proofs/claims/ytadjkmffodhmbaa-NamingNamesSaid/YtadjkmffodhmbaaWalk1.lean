/- What functions compute, and the law run. -/
import Derived.Test.YtadjkmffodhmbaaTy
import Derived.Test.YtadjkmffodhmbaaVm9
import Derived.Shelf.SlIter.Sorted
import Derived.Shelf.SortM.Plain
import Derived.Shelf.SortM.SortNone
set_option linter.constructorNameAsVariable false
set_option linter.unusedVariables false
set_option linter.unusedSimpArgs false
noncomputable section
namespace Go.Proofs.Ytadjkmffodhmbaa
open Go.Vm
set_option maxRecDepth 100000
set_option linter.unusedVariables false
noncomputable def tab1 : List (Nat × SymC) := []
theorem tab1_ok : TabOK Try.prog T tab1 := tabOK_nil
noncomputable def K1 : KC := runAC Try.prog T tab1 false FU 4
theorem hK1 : K1.nat := runAC_nat tab1_ok 4
theorem hS1 : ∀ f, SymOK Try.prog T f (K1 f).dir := runAC_ok follows T_ok tab1_ok 4
def tmSpA : PSpA → Vm.St
  | .m x z i w => ⟨[(0, .v 30 x), (2, .p 0 144 []), (3, .p 1 144 []), (8, .i .i64 i)], (.n (some (.box 144 (.v 144 z) false)) (.n (some (.box 144 (.v 144 w) false)) .e .e) .e), [], 2⟩
def ekSpA (R : Type) (kx : Exit → Vm.St → Option R) : QSpA → Option R
  | .o x z i w => kx (.exit 0) ⟨[(0, .v 30 x), (2, .p 0 144 []), (3, .p 1 144 []), (8, .i .i64 i)], (.n (some (.box 144 (.v 144 z) false)) (.n (some (.box 144 (.v 144 w) false)) .e .e) .e), [], 16⟩
def extSpA : Vm.St → Option PSpA
  | ⟨[(0, .v 30 x), (2, .p 0 144 []), (3, .p 1 144 []), (8, .i .i64 i)], (.n (some (.box 144 (.v 144 z) false)) (.n (some (.box 144 (.v 144 w) false)) .e .e) .e), [], 2⟩ => some (.m x z i w)
  | _ => none
theorem extSpA_ok (τ : Vm.St) (x : PSpA) (h : extSpA τ = some x) : τ = tmSpA x := by
  unfold extSpA at h
  split at h <;> first | (cases h; rfl) | cases h
theorem stepSpA (R : Type) (of : Nat → Option Ob) (x : PSpA) (K : Vm.St → Option R) (kx : Exit → Vm.St → Option R) : execC T K1 (fun _ => none) false FU (ntOf Try.prog 88) of R (lp (codeOf Try.prog 88) 0) (tmSpA x) (sortN 0 [0, 2, 3, 8] 16 K kx) = BSpA R x (fun x' => K (tmSpA x')) (ekSpA R kx) := by
  cases x
  · kernel_rfl
noncomputable def HSpA : LS := loopH T K1 (fun _ => none) (ntOf Try.prog 88) (lp (codeOf Try.prog 88) 0) 0 [0, 2, 3, 8] 16 extSpA BSpA ekSpA
theorem HSpA_ok : LoopTk Try.prog T (ntOf Try.prog 88) 0 (lp (codeOf Try.prog 88) 0) HSpA :=
  loopH_ok follows T_ok hK1 hS1 loNat_none (loopsOK_none _) tmSpA extSpA_ok stepSpA
def tmSpB : PSpB → Vm.St
  | .m z i w => ⟨[(2, .p 0 144 []), (3, .p 1 144 []), (5, .i .i64 i)], (.n (some (.box 144 (.v 144 z) false)) (.n (some (.box 144 (.v 144 w) false)) .e .e) .e), [], 2⟩
def ekSpB (R : Type) (kx : Exit → Vm.St → Option R) : QSpB → Option R
  | .o z i w => kx (.exit 2) ⟨[(2, .p 0 144 []), (3, .p 1 144 []), (5, .i .i64 i)], (.n (some (.box 144 (.v 144 z) false)) (.n (some (.box 144 (.v 144 w) false)) .e .e) .e), [], 16⟩
def extSpB : Vm.St → Option PSpB
  | ⟨[(2, .p 0 144 []), (3, .p 1 144 []), (5, .i .i64 i)], (.n (some (.box 144 (.v 144 z) false)) (.n (some (.box 144 (.v 144 w) false)) .e .e) .e), [], 2⟩ => some (.m z i w)
  | _ => none
theorem extSpB_ok (τ : Vm.St) (x : PSpB) (h : extSpB τ = some x) : τ = tmSpB x := by
  unfold extSpB at h
  split at h <;> first | (cases h; rfl) | cases h
theorem stepSpB (R : Type) (of : Nat → Option Ob) (x : PSpB) (K : Vm.St → Option R) (kx : Exit → Vm.St → Option R) : execC T K1 (fun _ => none) false FU (ntOf Try.prog 88) of R (lp (codeOf Try.prog 88) 1) (tmSpB x) (sortN 0 [2, 3, 5] 16 K kx) = BSpB R x (fun x' => K (tmSpB x')) (ekSpB R kx) := by
  cases x
  · kernel_rfl
noncomputable def HSpB : LS := loopH T K1 (fun _ => none) (ntOf Try.prog 88) (lp (codeOf Try.prog 88) 1) 0 [2, 3, 5] 16 extSpB BSpB ekSpB
theorem HSpB_ok : LoopTk Try.prog T (ntOf Try.prog 88) 0 (lp (codeOf Try.prog 88) 1) HSpB :=
  loopH_ok follows T_ok hK1 hS1 loNat_none (loopsOK_none _) tmSpB extSpB_ok stepSpB
noncomputable def LoSp : Nat → LC := atN 0 [(3, HSpA), (8, HSpB)]
theorem LoSp_ok : LoopsC Try.prog T 88 LoSp := loopsC_at 0 (List.forall_mem_cons.2 ⟨HSpA_ok.1, List.forall_mem_cons.2 ⟨HSpB_ok.1, fun _ h => by cases h⟩⟩) 2 (by kernel_rfl) ⟨⟨trivial, loI (s0 := HSpA) (by kernel_rfl) HSpA_ok⟩, loI (s0 := HSpB) (by kernel_rfl) HSpB_ok⟩
noncomputable def Gsp : FC := fun R xs k => match xs with
  | [x] => lpC (BSpA R) (hid FU) (.m x z64 0 z64) (fun | .o _ z _ w => lpC (BSpB R) (hid FU) (.m z 16 w) (fun | .o _ _ w => k [.d 144 w]))
  | _ => none
theorem run_sp (R : Type) (x : V) (k : List Rs → Option R) : runFC Try.prog T K1 LoSp false FU 88 R (mkAs T [30] [x]) (fun _ => none) 0 (fun out => ob (resC T false [.d 144] out) k) = Gsp R [x] k := by kernel_rfl
noncomputable def tab2 : List (Nat × SymC) := (88, pureS T false [30] (Fsp 144)) :: tab1
theorem tab2_ok : TabOK Try.prog T tab2 := by
  refine pure_run (sh := false) (rk := [.d 144]) (d := 4) (fu := FU) (Lo := LoSp) (G := Gsp) follows T_ok tab1_ok (Fsp_nat 144) (by kernel_rfl) LoSp_ok (fun R xs k htv => ?_) (fun xs rs htv hrs => ?_)
  · match xs, htv.len with
    | [x], _ => exact run_sp R x k
  · match xs, htv, htv.len with
    | [x], htv, _ =>
      obtain ⟨e, cs, hx⟩ := htv.head
      obtain ⟨bs, h1, h2⟩ := tv_slice (T := T) (el := 5) (kd := .u8) (by kernel_rfl) (by kernel_rfl) rfl hx
      simp only [Fsp] at hrs
      cases hl : Nat.ble 64 x.els.length with
      | false => rw [hl] at hrs; cases hrs
      | true =>
        rw [hl] at hrs
        have hl := Nat.le_of_ble_eq_true hl
        rw [h1, List.length_map] at hl
        exact (spread_law h1 (lt256 h2) hl HID (fun w => some [Rs.d 144 w])).trans hrs
noncomputable def K2 : KC := runAC Try.prog T tab2 false FU 4
theorem hK2 : K2.nat := runAC_nat tab2_ok 4
theorem hS2 : ∀ f, SymOK Try.prog T f (K2 f).dir := runAC_ok follows T_ok tab2_ok 4
def tmMxA : PMxA → Vm.St
  | .m s z w k x i => ⟨[(2, .p 0 128 []), (4, .p 1 128 []), (5, .p 3 144 []), (6, .p 4 144 []), (7, .p 5 128 []), (18, .i .i64 i)], (.n (some (.box 128 (.v 128 s) false)) (.n (some (.box 128 (.v 128 z) false)) (.n (some (.box 144 (.v 144 w) false)) .e .e) (.n (some (.box 128 (.v 128 x) false)) .e .e)) (.n none (.n (some (.box 144 (.v 144 k) false)) .e .e) .e)), [], 6⟩
def ekMxA (R : Type) (kx : Exit → Vm.St → Option R) : QMxA → Option R
  | .o s z w k x i => kx (.exit 0) ⟨[(2, .p 0 128 []), (4, .p 1 128 []), (5, .p 3 144 []), (6, .p 4 144 []), (7, .p 5 128 []), (18, .i .i64 i)], (.n (some (.box 128 (.v 128 s) false)) (.n (some (.box 128 (.v 128 z) false)) (.n (some (.box 144 (.v 144 w) false)) .e .e) (.n (some (.box 128 (.v 128 x) false)) .e .e)) (.n none (.n (some (.box 144 (.v 144 k) false)) .e .e) .e)), [], 16⟩
def extMxA : Vm.St → Option PMxA
  | ⟨[(2, .p 0 128 []), (4, .p 1 128 []), (5, .p 3 144 []), (6, .p 4 144 []), (7, .p 5 128 []), (18, .i .i64 i)], (.n (some (.box 128 (.v 128 s) false)) (.n (some (.box 128 (.v 128 z) false)) (.n (some (.box 144 (.v 144 w) false)) .e .e) (.n (some (.box 128 (.v 128 x) false)) .e .e)) (.n none (.n (some (.box 144 (.v 144 k) false)) .e .e) .e)), [], 6⟩ => some (.m s z w k x i)
  | _ => none
theorem extMxA_ok (τ : Vm.St) (x : PMxA) (h : extMxA τ = some x) : τ = tmMxA x := by
  unfold extMxA at h
  split at h <;> first | (cases h; rfl) | cases h
theorem stepMxA (R : Type) (of : Nat → Option Ob) (x : PMxA) (K : Vm.St → Option R) (kx : Exit → Vm.St → Option R) : execC T K2 (fun _ => none) false FU (ntOf Try.prog 76) of R (lp (codeOf Try.prog 76) 0) (tmMxA x) (sortN 0 [2, 4, 5, 6, 7, 18] 16 K kx) = BMxA R x (fun x' => K (tmMxA x')) (ekMxA R kx) := by
  cases x
  · kernel_rfl
noncomputable def HMxA : LS := loopH T K2 (fun _ => none) (ntOf Try.prog 76) (lp (codeOf Try.prog 76) 0) 0 [2, 4, 5, 6, 7, 18] 16 extMxA BMxA ekMxA
theorem HMxA_ok : LoopTk Try.prog T (ntOf Try.prog 76) 0 (lp (codeOf Try.prog 76) 0) HMxA :=
  loopH_ok follows T_ok hK2 hS2 loNat_none (loopsOK_none _) tmMxA extMxA_ok stepMxA
def tmMxB : PMxB → Vm.St
  | .m s z x i => ⟨[(2, .p 0 128 []), (4, .p 1 128 []), (7, .p 5 128 []), (98, .i .i64 i)], (.n (some (.box 128 (.v 128 s) false)) (.n (some (.box 128 (.v 128 z) false)) .e (.n (some (.box 128 (.v 128 x) false)) .e .e)) .e), [], 6⟩
def ekMxB (R : Type) (kx : Exit → Vm.St → Option R) : QMxB → Option R
  | .o s z x i => kx (.exit 2) ⟨[(2, .p 0 128 []), (4, .p 1 128 []), (7, .p 5 128 []), (98, .i .i64 i)], (.n (some (.box 128 (.v 128 s) false)) (.n (some (.box 128 (.v 128 z) false)) .e (.n (some (.box 128 (.v 128 x) false)) .e .e)) .e), [], 16⟩
def extMxB : Vm.St → Option PMxB
  | ⟨[(2, .p 0 128 []), (4, .p 1 128 []), (7, .p 5 128 []), (98, .i .i64 i)], (.n (some (.box 128 (.v 128 s) false)) (.n (some (.box 128 (.v 128 z) false)) .e (.n (some (.box 128 (.v 128 x) false)) .e .e)) .e), [], 6⟩ => some (.m s z x i)
  | _ => none
theorem extMxB_ok (τ : Vm.St) (x : PMxB) (h : extMxB τ = some x) : τ = tmMxB x := by
  unfold extMxB at h
  split at h <;> first | (cases h; rfl) | cases h
theorem stepMxB (R : Type) (of : Nat → Option Ob) (x : PMxB) (K : Vm.St → Option R) (kx : Exit → Vm.St → Option R) : execC T K2 (fun _ => none) false FU (ntOf Try.prog 76) of R (lp (codeOf Try.prog 76) 1) (tmMxB x) (sortN 0 [2, 4, 7, 98] 16 K kx) = BMxB R x (fun x' => K (tmMxB x')) (ekMxB R kx) := by
  cases x
  · kernel_rfl
noncomputable def HMxB : LS := loopH T K2 (fun _ => none) (ntOf Try.prog 76) (lp (codeOf Try.prog 76) 1) 0 [2, 4, 7, 98] 16 extMxB BMxB ekMxB
theorem HMxB_ok : LoopTk Try.prog T (ntOf Try.prog 76) 0 (lp (codeOf Try.prog 76) 1) HMxB :=
  loopH_ok follows T_ok hK2 hS2 loNat_none (loopsOK_none _) tmMxB extMxB_ok stepMxB
noncomputable def LoMx : Nat → LC := atN 0 [(3, HMxA), (11, HMxB)]
theorem LoMx_ok : LoopsC Try.prog T 76 LoMx := loopsC_at 0 (List.forall_mem_cons.2 ⟨HMxA_ok.1, List.forall_mem_cons.2 ⟨HMxB_ok.1, fun _ h => by cases h⟩⟩) 2 (by kernel_rfl) ⟨⟨trivial, loI (s0 := HMxA) (by kernel_rfl) HMxA_ok⟩, loI (s0 := HMxB) (by kernel_rfl) HMxB_ok⟩
noncomputable def Gmx : FC := fun R xs k => match xs with
  | [s, b] => bif Nat.ble 64 b.els.length then lpC (BMxA R) (hid FU) (.m s z8 (spW b) keysV s 0) (fun | .o s z _ _ x _ => lpC (BMxB R) (hid FU) (.m s z x 0) (fun | .o s _ _ _ => k [.d 128 s])) else none
  | _ => none
theorem run_mx (R : Type) (s b : V) (k : List Rs → Option R) : runFC Try.prog T K2 LoMx false FU 76 R (mkAs T [128, 30] [s, b]) (fun _ => none) 0 (fun out => ob (resC T false [.d 128] out) k) = Gmx R [s, b] k := by kernel_rfl
noncomputable def tab3 : List (Nat × SymC) := (76, pureS T false [128, 30] (Fmx 128)) :: tab2
theorem tab3_ok : TabOK Try.prog T tab3 := by
  refine pure_run (sh := false) (rk := [.d 128]) (d := 4) (fu := FU) (Lo := LoMx) (G := Gmx) follows T_ok tab2_ok (Fmx_nat 128) (by kernel_rfl) LoMx_ok (fun R xs k htv => ?_) (fun xs rs htv hrs => ?_)
  · match xs, htv.len with
    | [s, b], _ => exact run_mx R s b k
  · match xs, htv, htv.len with
    | [s, b], htv, _ =>
      obtain ⟨e, cs, hs⟩ := htv.head
      obtain ⟨e2, cs2, hx⟩ := htv.tail.head
      obtain ⟨bs, h1, h2⟩ := tv_slice (T := T) (el := 5) (kd := .u8) (by kernel_rfl) (by kernel_rfl) rfl hx
      obtain ⟨ns, rfl, n1, n2⟩ := tv_arr (T := T) (n := 8) (el := 25) (kd := .u32) (by kernel_rfl) (by kernel_rfl) rfl hs
      obtain ⟨s8, hs8, hok⟩ := stV_of n1 n2
      rw [hs8] at hrs ⊢
      simp only [Fmx] at hrs
      cases hl : Nat.ble 64 b.els.length with
      | false => rw [hl] at hrs; cases hrs
      | true =>
        rw [hl] at hrs
        simp only [Gmx, hl, cond_true]
        have hl := Nat.le_of_ble_eq_true hl
        rw [h1, List.length_map] at hl
        exact (mix_law hok h1 (lt256 h2) hl HID (fun w => some [Rs.d 128 w])).trans hrs
noncomputable def K3 : KC := runAC Try.prog T tab3 false FU 4
theorem hK3 : K3.nat := runAC_nat tab3_ok 4
theorem hS3 : ∀ f, SymOK Try.prog T f (K3 f).dir := runAC_ok follows T_ok tab3_ok 4
end Go.Proofs.Ytadjkmffodhmbaa

namespace Go.Proofs.Ytadjkmffodhmbaa
open Go.Vm
set_option maxRecDepth 100000
set_option linter.unusedVariables false
def tmPdA : PPdA → Vm.St
  | .m b xs => ⟨[(0, .v 30 b), (3, .o 1 1)], (.n none (.n (some (.row 5 1 xs false false)) .e .e) .e), [], 2⟩
def ekPdA (R : Type) (kx : Exit → Vm.St → Option R) : QPdA → Option R
  | .o b xs => kx (.exit 0) ⟨[(0, .v 30 b), (3, .o 1 1)], (.n none (.n (some (.row 5 1 xs false false)) .e .e) .e), [], 8⟩
def extPdA : Vm.St → Option PPdA
  | ⟨[(0, .v 30 b), (3, .o 1 1)], (.n none (.n (some (.row 5 1 xs false false)) .e .e) .e), [], 2⟩ => some (.m b xs)
  | _ => none
theorem extPdA_ok (τ : Vm.St) (x : PPdA) (h : extPdA τ = some x) : τ = tmPdA x := by
  unfold extPdA at h
  split at h <;> first | (cases h; rfl) | cases h
theorem stepPdA (R : Type) (of : Nat → Option Ob) (x : PPdA) (K : Vm.St → Option R) (kx : Exit → Vm.St → Option R) : execC T K3 (fun _ => none) false FU (ntOf Try.prog 56) of R (lp (codeOf Try.prog 56) 0) (tmPdA x) (sortN 0 [0, 3] 8 K kx) = BPdA R x (fun x' => K (tmPdA x')) (ekPdA R kx) := by
  cases x
  · kernel_rfl
noncomputable def HPdA : LS := loopH T K3 (fun _ => none) (ntOf Try.prog 56) (lp (codeOf Try.prog 56) 0) 0 [0, 3] 8 extPdA BPdA ekPdA
theorem HPdA_ok : LoopTk Try.prog T (ntOf Try.prog 56) 0 (lp (codeOf Try.prog 56) 0) HPdA :=
  loopH_ok follows T_ok hK3 hS3 loNat_none (loopsOK_none _) tmPdA extPdA_ok stepPdA
noncomputable def LoPd : Nat → LC := atN 0 [(2, HPdA)]
theorem LoPd_ok : LoopsC Try.prog T 56 LoPd := loopsC_at 0 (List.forall_mem_cons.2 ⟨HPdA_ok.1, fun _ h => by cases h⟩) 2 (by kernel_rfl) ⟨⟨trivial, loI (s0 := HPdA) (by kernel_rfl) HPdA_ok⟩, loN (by kernel_rfl)⟩

theorem run_pd (R : Type) (b : V) (k : List Rs → Option R) : runFC Try.prog T K3 LoPd false FU 56 R (mkAs T [30] [b]) (fun _ => none) 0 (fun out => ob (resC T false [.r 5] out) k) = Gpd 5 R [b] k := by kernel_rfl
noncomputable def tab4 : List (Nat × SymC) := (56, pureS T false [30] (Fpd 5)) :: tab3
theorem tab4_ok : TabOK Try.prog T tab4 := by
  refine pure_run (sh := false) (rk := [.r 5]) (d := 4) (fu := FU) (Lo := LoPd) (G := Gpd 5) follows T_ok tab3_ok (Fpd_nat 5) (by kernel_rfl) LoPd_ok (fun R xs k htv => ?_) (fun xs rs htv hrs => ?_)
  · match xs, htv.len with
    | [b], _ => exact run_pd R b k
  · match xs, htv.len with
    | [b], _ => exact pd_law 5 hrs
noncomputable def K4 : KC := runAC Try.prog T tab4 false FU 4
theorem hK4 : K4.nat := runAC_nat tab4_ok 4
theorem hS4 : ∀ f, SymOK Try.prog T f (K4 f).dir := runAC_ok follows T_ok tab4_ok 4
def tmSmA : PSmA → Vm.St
  | .m z v xs kk at_ ws i => ⟨[(2, .p 0 47 []), (3, .p 1 108 []), (4, .o 2 1), (5, .p 4 109 []), (6, .i .i64 at_), (7, .o 5 1), (8, .i .i64 i)], (.n (some (.box 47 (.v 47 z) false)) (.n (some (.box 108 (.v 108 v) false)) .e (.n (some (.row 87 1 ws false false)) .e .e)) (.n (some (.row 5 1 xs false false)) (.n (some (.box 109 (.v 109 kk) false)) .e .e) .e)), [], 6⟩
def ekSmA (R : Type) (kx : Exit → Vm.St → Option R) : QSmA → Option R
  | .o z v xs kk at_ ws i => kx (.exit 2) ⟨[(2, .p 0 47 []), (3, .p 1 108 []), (4, .o 2 1), (5, .p 4 109 []), (6, .i .i64 at_), (7, .o 5 1), (8, .i .i64 i)], (.n (some (.box 47 (.v 47 z) false)) (.n (some (.box 108 (.v 108 v) false)) .e (.n (some (.row 87 1 ws false false)) .e .e)) (.n (some (.row 5 1 xs false false)) (.n (some (.box 109 (.v 109 kk) false)) .e .e) .e)), [], 16⟩
def extSmA : Vm.St → Option PSmA
  | ⟨[(2, .p 0 47 []), (3, .p 1 108 []), (4, .o 2 1), (5, .p 4 109 []), (6, .i .i64 at_), (7, .o 5 1), (8, .i .i64 i)], (.n (some (.box 47 (.v 47 z) false)) (.n (some (.box 108 (.v 108 v) false)) .e (.n (some (.row 87 1 ws false false)) .e .e)) (.n (some (.row 5 1 xs false false)) (.n (some (.box 109 (.v 109 kk) false)) .e .e) .e)), [], 6⟩ => some (.m z v xs kk at_ ws i)
  | _ => none
theorem extSmA_ok (τ : Vm.St) (x : PSmA) (h : extSmA τ = some x) : τ = tmSmA x := by
  unfold extSmA at h
  split at h <;> first | (cases h; rfl) | cases h
theorem stepSmA (R : Type) (of : Nat → Option Ob) (x : PSmA) (K : Vm.St → Option R) (kx : Exit → Vm.St → Option R) : execC T K4 (fun _ => none) false FU (ntOf Try.prog 33) of R (lp (codeOf Try.prog 33) 1) (tmSmA x) (sortN 0 [2, 3, 4, 5, 6, 7, 8] 16 K kx) = BSmA R x (fun x' => K (tmSmA x')) (ekSmA R kx) := by
  cases x
  · kernel_rfl
noncomputable def HSmA : LS := loopH T K4 (fun _ => none) (ntOf Try.prog 33) (lp (codeOf Try.prog 33) 1) 0 [2, 3, 4, 5, 6, 7, 8] 16 extSmA BSmA ekSmA
theorem HSmA_ok : LoopTk Try.prog T (ntOf Try.prog 33) 0 (lp (codeOf Try.prog 33) 1) HSmA :=
  loopH_ok follows T_ok hK4 hS4 loNat_none (loopsOK_none _) tmSmA extSmA_ok stepSmA
def tmSmB : PSmB → Vm.St
  | .m z v xs kk at_ ws x i => ⟨[(2, .p 0 47 []), (3, .p 1 108 []), (4, .o 2 1), (5, .p 4 109 []), (6, .i .i64 at_), (7, .o 5 1), (13, .p 16 108 []), (14, .i .i64 i)], (.n (some (.box 47 (.v 47 z) false)) (.n (some (.box 108 (.v 108 v) false)) .e (.n (some (.row 87 1 ws false false)) .e .e)) (.n (some (.row 5 1 xs false false)) (.n (some (.box 109 (.v 109 kk) false)) (.n none (.n (some (.box 108 (.v 108 x) false)) .e .e) .e) .e) .e)), [], 17⟩
def ekSmB (R : Type) (kx : Exit → Vm.St → Option R) : QSmB → Option R
  | .o z v xs kk at_ ws x i => kx (.exit 6) ⟨[(2, .p 0 47 []), (3, .p 1 108 []), (4, .o 2 1), (5, .p 4 109 []), (6, .i .i64 at_), (7, .o 5 1), (13, .p 16 108 []), (14, .i .i64 i)], (.n (some (.box 47 (.v 47 z) false)) (.n (some (.box 108 (.v 108 v) false)) .e (.n (some (.row 87 1 ws false false)) .e .e)) (.n (some (.row 5 1 xs false false)) (.n (some (.box 109 (.v 109 kk) false)) (.n none (.n (some (.box 108 (.v 108 x) false)) .e .e) .e) .e) .e)), [], 32⟩
def extSmB : Vm.St → Option PSmB
  | ⟨[(2, .p 0 47 []), (3, .p 1 108 []), (4, .o 2 1), (5, .p 4 109 []), (6, .i .i64 at_), (7, .o 5 1), (13, .p 16 108 []), (14, .i .i64 i)], (.n (some (.box 47 (.v 47 z) false)) (.n (some (.box 108 (.v 108 v) false)) .e (.n (some (.row 87 1 ws false false)) .e .e)) (.n (some (.row 5 1 xs false false)) (.n (some (.box 109 (.v 109 kk) false)) (.n none (.n (some (.box 108 (.v 108 x) false)) .e .e) .e) .e) .e)), [], 17⟩ => some (.m z v xs kk at_ ws x i)
  | _ => none
theorem extSmB_ok (τ : Vm.St) (x : PSmB) (h : extSmB τ = some x) : τ = tmSmB x := by
  unfold extSmB at h
  split at h <;> first | (cases h; rfl) | cases h
theorem stepSmB (R : Type) (of : Nat → Option Ob) (x : PSmB) (K : Vm.St → Option R) (kx : Exit → Vm.St → Option R) : execC T K4 (fun _ => none) false FU (ntOf Try.prog 33) of R (lp (codeOf Try.prog 33) 3) (tmSmB x) (sortN 0 [2, 3, 4, 5, 6, 7, 13, 14] 32 K kx) = BSmB R x (fun x' => K (tmSmB x')) (ekSmB R kx) := by
  cases x
  · kernel_rfl
noncomputable def HSmB : LS := loopH T K4 (fun _ => none) (ntOf Try.prog 33) (lp (codeOf Try.prog 33) 3) 0 [2, 3, 4, 5, 6, 7, 13, 14] 32 extSmB BSmB ekSmB
theorem HSmB_ok : LoopTk Try.prog T (ntOf Try.prog 33) 0 (lp (codeOf Try.prog 33) 3) HSmB :=
  loopH_ok follows T_ok hK4 hS4 loNat_none (loopsOK_none _) tmSmB extSmB_ok stepSmB
def tmSmO : PSmO → Vm.St
  | .m z v xs kk at_ => ⟨[(2, .p 0 47 []), (3, .p 1 108 []), (4, .o 2 1), (5, .p 4 109 []), (6, .i .i64 at_)], (.n (some (.box 47 (.v 47 z) false)) (.n (some (.box 108 (.v 108 v) false)) .e .e) (.n (some (.row 5 1 xs false false)) (.n (some (.box 109 (.v 109 kk) false)) .e .e) .e)), [], 5⟩
def ekSmO (R : Type) (kx : Exit → Vm.St → Option R) : QSmO → Option R
  | .o z v xs kk at_ => kx (.exit 0) ⟨[(2, .p 0 47 []), (3, .p 1 108 []), (4, .o 2 1), (5, .p 4 109 []), (6, .i .i64 at_)], (.n (some (.box 47 (.v 47 z) false)) (.n (some (.box 108 (.v 108 v) false)) .e .e) (.n (some (.row 5 1 xs false false)) (.n (some (.box 109 (.v 109 kk) false)) .e .e) .e)), [], 64⟩
def extSmO : Vm.St → Option PSmO
  | ⟨[(2, .p 0 47 []), (3, .p 1 108 []), (4, .o 2 1), (5, .p 4 109 []), (6, .i .i64 at_)], (.n (some (.box 47 (.v 47 z) false)) (.n (some (.box 108 (.v 108 v) false)) .e .e) (.n (some (.row 5 1 xs false false)) (.n (some (.box 109 (.v 109 kk) false)) .e .e) .e)), [], 5⟩ => some (.m z v xs kk at_)
  | _ => none
theorem extSmO_ok (τ : Vm.St) (x : PSmO) (h : extSmO τ = some x) : τ = tmSmO x := by
  unfold extSmO at h
  split at h <;> first | (cases h; rfl) | cases h
theorem stepSmO (R : Type) (of : Nat → Option Ob) (x : PSmO) (K : Vm.St → Option R) (kx : Exit → Vm.St → Option R) : execC T K4 (loT [(9, HSmA), (23, HSmB)]) false FU (ntOf Try.prog 33) of R (lp (codeOf Try.prog 33) 0) (tmSmO x) (sortN 0 [2, 3, 4, 5, 6] 64 K kx) = BSmO R x (fun x' => K (tmSmO x')) (ekSmO R kx) := by
  cases x
  · kernel_rfl
noncomputable def HSmO : LS := loopH T K4 (loT [(9, HSmA), (23, HSmB)]) (ntOf Try.prog 33) (lp (codeOf Try.prog 33) 0) 0 [2, 3, 4, 5, 6] 64 extSmO BSmO ekSmO
theorem HSmO_ok : LoopTk Try.prog T (ntOf Try.prog 33) 0 (lp (codeOf Try.prog 33) 0) HSmO :=
  loopH_ok follows T_ok hK4 hS4 (loT_nat (List.forall_mem_cons.2 ⟨HSmA_ok.1, List.forall_mem_cons.2 ⟨HSmB_ok.1, fun _ h => by cases h⟩⟩)) (loopsOK_at 5 (by kernel_rfl) ⟨⟨⟨⟨⟨trivial, loI (s0 := HSmA) (by kernel_rfl) ((show lp (lp (codeOf Try.prog 33) 0) 0 = lp (codeOf Try.prog 33) 1 from by kernel_rfl) ▸ HSmA_ok)⟩, loN (by kernel_rfl)⟩, loI (s0 := HSmB) (by kernel_rfl) ((show lp (lp (codeOf Try.prog 33) 0) 2 = lp (codeOf Try.prog 33) 3 from by kernel_rfl) ▸ HSmB_ok)⟩, loN (by kernel_rfl)⟩, loN (by kernel_rfl)⟩) tmSmO extSmO_ok stepSmO
noncomputable def LoSm : Nat → LC := atN 0 [(5, HSmO)]
theorem LoSm_ok : LoopsC Try.prog T 33 LoSm := loopsC_at 0 (List.forall_mem_cons.2 ⟨HSmO_ok.1, fun _ h => by cases h⟩) 8 (by kernel_rfl) ⟨⟨⟨⟨⟨⟨⟨⟨trivial, loI (s0 := HSmO) (by kernel_rfl) HSmO_ok⟩, loN (by kernel_rfl)⟩, loN (by kernel_rfl)⟩, loN (by kernel_rfl)⟩, loN (by kernel_rfl)⟩, loN (by kernel_rfl)⟩, loN (by kernel_rfl)⟩, loN (by kernel_rfl)⟩

theorem run_sm (R : Type) (b : V) (k : List Rs → Option R) : runFC Try.prog T K4 LoSm false FU 33 R (mkAs T [30] [b]) (fun _ => none) 0 (fun out => ob (resC T false [.d 47] out) k) = Gsm 47 R [b] k := by kernel_rfl
noncomputable def tab5 : List (Nat × SymC) := (33, pureS T false [30] (Fsm 47)) :: tab4
theorem tab5_ok : TabOK Try.prog T tab5 := by
  refine pure_run (sh := false) (rk := [.d 47]) (d := 4) (fu := FU) (Lo := LoSm) (G := Gsm 47) follows T_ok tab4_ok (Fsm_nat 47) (by kernel_rfl) LoSm_ok (fun R xs k htv => ?_) (fun xs rs htv hrs => ?_)
  · match xs, htv.len with
    | [b], _ => exact run_sm R b k
  · match xs, htv, htv.len with
    | [b], htv, _ =>
      obtain ⟨e, cs, hx⟩ := htv.head
      obtain ⟨bs, h1, h2⟩ := tv_slice (T := T) (el := 5) (kd := .u8) (by kernel_rfl) (by kernel_rfl) rfl hx
      exact sm_law 47 h1 (lt256 h2) hrs
noncomputable def K5 : KC := runAC Try.prog T tab5 false FU 4
theorem hK5 : K5.nat := runAC_nat tab5_ok 4
theorem hS5 : ∀ f, SymOK Try.prog T f (K5 f).dir := runAC_ok follows T_ok tab5_ok 4
end Go.Proofs.Ytadjkmffodhmbaa

namespace Go.Proofs.Ytadjkmffodhmbaa
open Go.Vm Go.Shelf Go.Proofs
set_option maxRecDepth 100000
set_option linter.unusedVariables false
def Try.keysA_ren : Go.Shelf.Ren := ⟨fun | 7 => 41 | 10 => 62 | n => n, fun | 23 => 61 | 26 => 9 | 3 => 60 | 28 => 95 | 0 => 0 | 27 => 94 | 33 => 114 | 4 => 4 | n => n, fun | n => n⟩
theorem Try.keysA : Go.Proofs.SlLaysZ.n7 Try.prog Try.keysA_ren := {
  mixed := by kernel_rfl
  f7 := ⟨Try.f41.name, by decide, Try.func41.trans (congrArg some (by kernel_rfl))⟩
  f10 := ⟨Try.f62.name, by decide, Try.func62.trans (congrArg some (by kernel_rfl))⟩
  t0 := Try.underlying0
  a0 := Try.isAgg0
  z0 := Try.sizeOf0
  v0 := Try.zeroValue0
  t4 := Try.underlying4
  a4 := Try.isAgg4
  z4 := Try.sizeOf4
  v4 := Try.zeroValue4
  t23 := Try.underlying61
  a23 := Try.isAgg61
  z23 := Try.sizeOf61
  v23 := Try.zeroValue61
  t26 := Try.underlying9
  a26 := Try.isAgg9
  z26 := Try.sizeOf9
  v26 := Try.zeroValue9
  t27 := Try.underlying94
  a27 := Try.isAgg94
  z27 := Try.sizeOf94
  v27 := Try.zeroValue94
  t28 := Try.underlying95
  a28 := Try.isAgg95
  z28 := Try.sizeOf95
  v28 := Try.zeroValue95
  t33 := Try.underlying114
  a33 := Try.isAgg114
  z33 := Try.sizeOf114
  v33 := Try.zeroValue114 }
def Try.sortedA_ren : Go.Shelf.Ren := ⟨fun | 6 => 40 | 8 => 60 | 9 => 61 | 11 => 72 | 13 => 74 | 12 => 73 | 23 => 86 | 24 => 87 | 14 => 77 | 15 => 78 | 16 => 79 | 17 => 80 | 18 => 81 | 19 => 82 | 20 => 83 | 21 => 84 | 22 => 85 | 25 => 91 | 26 => 92 | 27 => 93 | 28 => 94 | 29 => 95 | 30 => 96 | 31 => 98 | n => n, fun | 26 => 9 | 28 => 95 | 24 => 58 | 0 => 0 | 3 => 3 | 37 => 123 | 48 => 25 | 50 => 87 | 4 => 4 | 40 => 135 | 39 => 134 | 45 => 140 | 5 => 5 | 9 => 9 | 51 => 148 | 55 => 152 | 57 => 154 | 58 => 155 | 33 => 114 | n => n, fun | n => n⟩
theorem Try.sortedA : Go.Proofs.SlLaysZ.n6 Try.prog Try.sortedA_ren := {
  mixed := by kernel_rfl
  f6 := ⟨Try.f40.name, by decide, Try.func40.trans (congrArg some (by kernel_rfl))⟩
  f8 := ⟨Try.f60.name, by decide, Try.func60.trans (congrArg some (by kernel_rfl))⟩
  f11 := ⟨Try.f72.name, by decide, Try.func72.trans (congrArg some (by kernel_rfl))⟩
  t0 := Try.underlying0
  a0 := Try.isAgg0
  z0 := Try.sizeOf0
  v0 := Try.zeroValue0
  t24 := Try.underlying58
  a24 := Try.isAgg58
  z24 := Try.sizeOf58
  v24 := Try.zeroValue58
  t26 := Try.underlying9
  a26 := Try.isAgg9
  z26 := Try.sizeOf9
  v26 := Try.zeroValue9
  t28 := Try.underlying95
  a28 := Try.isAgg95
  z28 := Try.sizeOf95
  v28 := Try.zeroValue95
  i26 := by kernel_rfl }
def Try.sortA_ren : Go.Shelf.Ren := ⟨fun | 6 => 61 | 8 => 74 | 9 => 73 | 19 => 86 | 20 => 87 | 21 => 77 | 22 => 78 | 23 => 79 | 24 => 80 | 25 => 81 | 26 => 82 | 27 => 83 | 28 => 84 | 29 => 85 | 36 => 91 | 31 => 92 | 32 => 93 | 37 => 94 | 38 => 95 | 39 => 96 | 41 => 98 | n => n, fun | 27 => 58 | 29 => 9 | 3 => 3 | 32 => 123 | 26 => 58 | 0 => 0 | 44 => 25 | 46 => 87 | 4 => 4 | 36 => 135 | 35 => 134 | 41 => 140 | 5 => 5 | 9 => 9 | 53 => 148 | 57 => 152 | 63 => 154 | 64 => 155 | n => n, fun | n => n⟩
theorem Try.sortA : Go.Proofs.SlLaysM.n6 Try.prog Try.sortA_ren := {
  mixed := by kernel_rfl
  f6 := ⟨Try.f61.name, by decide, Try.func61.trans (congrArg some (by kernel_rfl))⟩
  f8 := Try.func74.trans (congrArg some (by kernel_rfl))
  f9 := ⟨Try.f73.name, by decide, Try.func73.trans (congrArg some (by kernel_rfl))⟩
  f19 := Try.func86.trans (congrArg some (by kernel_rfl))
  f20 := Try.func87.trans (congrArg some (by kernel_rfl))
  f21 := ⟨Try.f77.name, by decide, Try.func77.trans (congrArg some (by kernel_rfl))⟩
  f22 := ⟨Try.f78.name, by decide, Try.func78.trans (congrArg some (by kernel_rfl))⟩
  f23 := ⟨Try.f79.name, by decide, Try.func79.trans (congrArg some (by kernel_rfl))⟩
  f24 := ⟨Try.f80.name, by decide, Try.func80.trans (congrArg some (by kernel_rfl))⟩
  f25 := ⟨Try.f81.name, by decide, Try.func81.trans (congrArg some (by kernel_rfl))⟩
  f26 := ⟨Try.f82.name, by decide, Try.func82.trans (congrArg some (by kernel_rfl))⟩
  f27 := ⟨Try.f83.name, by decide, Try.func83.trans (congrArg some (by kernel_rfl))⟩
  f28 := ⟨Try.f84.name, by decide, Try.func84.trans (congrArg some (by kernel_rfl))⟩
  f29 := ⟨Try.f85.name, by decide, Try.func85.trans (congrArg some (by kernel_rfl))⟩
  f31 := Try.func92.trans (congrArg some (by kernel_rfl))
  f32 := Try.func93.trans (congrArg some (by kernel_rfl))
  f36 := ⟨Try.f91.name, by decide, Try.func91.trans (congrArg some (by kernel_rfl))⟩
  f37 := ⟨Try.f94.name, by decide, Try.func94.trans (congrArg some (by kernel_rfl))⟩
  f38 := ⟨Try.f95.name, by decide, Try.func95.trans (congrArg some (by kernel_rfl))⟩
  f39 := ⟨Try.f96.name, by decide, Try.func96.trans (congrArg some (by kernel_rfl))⟩
  f41 := ⟨Try.f98.name, by decide, Try.func98.trans (congrArg some (by kernel_rfl))⟩
  t0 := Try.underlying0
  a0 := Try.isAgg0
  z0 := Try.sizeOf0
  v0 := Try.zeroValue0
  t3 := Try.underlying3
  a3 := Try.isAgg3
  z3 := Try.sizeOf3
  v3 := Try.zeroValue3
  t4 := Try.underlying4
  a4 := Try.isAgg4
  z4 := Try.sizeOf4
  v4 := Try.zeroValue4
  t5 := Try.underlying5
  a5 := Try.isAgg5
  z5 := Try.sizeOf5
  v5 := Try.zeroValue5
  t9 := Try.underlying9
  a9 := Try.isAgg9
  z9 := Try.sizeOf9
  v9 := Try.zeroValue9
  t26 := Try.underlying58
  a26 := Try.isAgg58
  z26 := Try.sizeOf58
  v26 := Try.zeroValue58
  t27 := Try.underlying58
  a27 := Try.isAgg58
  z27 := Try.sizeOf58
  v27 := Try.zeroValue58
  t29 := Try.underlying9
  a29 := Try.isAgg9
  z29 := Try.sizeOf9
  v29 := Try.zeroValue9
  t32 := Try.underlying123
  a32 := Try.isAgg123
  z32 := Try.sizeOf123
  v32 := Try.zeroValue123
  t35 := Try.underlying134
  a35 := Try.isAgg134
  z35 := Try.sizeOf134
  v35 := Try.zeroValue134
  t36 := Try.underlying135
  a36 := Try.isAgg135
  z36 := Try.sizeOf135
  v36 := Try.zeroValue135
  t41 := Try.underlying140
  a41 := Try.isAgg140
  z41 := Try.sizeOf140
  v41 := Try.zeroValue140
  t44 := Try.underlying25
  a44 := Try.isAgg25
  z44 := Try.sizeOf25
  v44 := Try.zeroValue25
  t46 := Try.underlying87
  a46 := Try.isAgg87
  z46 := Try.sizeOf87
  v46 := Try.zeroValue87
  t53 := Try.underlying148
  a53 := Try.isAgg148
  z53 := Try.sizeOf148
  v53 := Try.zeroValue148
  t57 := Try.underlying152
  a57 := Try.isAgg152
  z57 := Try.sizeOf152
  v57 := Try.zeroValue152
  t63 := Try.underlying154
  a63 := Try.isAgg154
  z63 := Try.sizeOf154
  v63 := Try.zeroValue154
  t64 := Try.underlying155
  a64 := Try.isAgg155
  z64 := Try.sizeOf155
  v64 := Try.zeroValue155 }

theorem sortsA (m : Nat) : AnyZ.SortsIn Try.prog Try.sortedA_ren Fence.wide m :=
  ⟨fun blk off cap ss W hH hblk hsz => callsIn_wide.2 (AnyM.slices_Sort_string Try.sortA blk off cap ss W hH hblk hsz),
   fun p cap W => callsIn_wide.2 (AnyM.slices_Sort_string_none Try.sortA p cap W)⟩
theorem sortedKeys : SortedKeys Try.prog 40 62 9 := by
  intro Bm b nn D0 R w hBm hcell hown hsize
  have hmax : Maps.size D0 ≤ maxLen := Nat.le_trans hsize (by decide)
  have hseq : SeqGives Fence.wide 2 Try.prog 62 #[.pointer (some ⟨Bm, 0, none⟩)] encStr (fun ss => ss.Perm (strKeys D0)) (Maps.size D0) w := AnyZ.keys_gives (ρ := Try.keysA_ren) { Try.keysA with } Fence.wide _ trivial rfl (by omega) Bm b nn D0 w hBm hcell hown
  have cS := AnyZ.sorted_in Try.sortedA Fence.wide 5 trivial trivial trivial trivial rfl (by omega) (sortsA _) (enters_of Try.func61 (by kernel_rfl) rfl) 62 #[.pointer (some ⟨Bm, 0, none⟩)] trivial (enters_of Try.func62 (by kernel_rfl) rfl) _ _ hmax (by omega) w hseq
  change CallsIn _ _ Try.prog 40 _ _ _ at cS
  exact callsIn_wide.1 cS
end Go.Proofs.Ytadjkmffodhmbaa

namespace Go.Proofs.Ytadjkmffodhmbaa
open Go.Vm
set_option maxRecDepth 100000
set_option linter.unusedVariables false
noncomputable def tabZ : List (Nat × Sym) := [(76, (pureS T false [128, 30] (seeF (Fmx 128))).dir), (33, (pureS T false [30] (seeF (Fsm 47))).dir), (40, sortK 62 9)]
theorem tabZ_ok : AllS Try.prog T tabZ := ⟨TabOK.see (TabOK.at tab3_ok (by kernel_rfl)), TabOK.see (TabOK.at tab5_ok (by kernel_rfl)), sortK_ok T_ok sortedKeys (by kernel_rfl) (by kernel_rfl) (enters_of Try.func40 (by kernel_rfl) rfl), trivial⟩
theorem law_run : ansB true (runZ Try.prog T tabZ 100000 60 3 [] (fun _ => none) 0) = true := by kernel_rfl
end Go.Proofs.Ytadjkmffodhmbaa
end

/- What functions compute, and the law run. -/
import Derived.Test.YtgnfgafiegimoaaTy
import Derived.Test.YtgnfgafiegimoaaVm10
import Derived.Test.YtgnfgafiegimoaaVm11
import Derived.Test.YtgnfgafiegimoaaVm12
import Derived.Test.YtgnfgafiegimoaaVm7
import Derived.Test.YtgnfgafiegimoaaVm13
import Derived.Test.YtgnfgafiegimoaaVm14
set_option linter.constructorNameAsVariable false
set_option linter.unusedVariables false
set_option linter.unusedSimpArgs false
noncomputable section
namespace Go.Proofs.Ytgnfgafiegimoaa
open Go.Vm
set_option maxRecDepth 100000
set_option linter.unusedVariables false
noncomputable def tab1 : List (Nat × SymC) := []
theorem tab1_ok : TabOK Try.prog T tab1 := tabOK_nil
noncomputable def K1 : KC := runAC Try.prog T tab1 false FU 4
theorem hK1 : K1.nat := runAC_nat tab1_ok 4
theorem hS1 : KOK Try.prog T K1.dir := runAC_ok follows T_ok tab1_ok 4
def tmSpA : PSpA → Vm.St
  | .m x z i w => ⟨[(0, .v 43 x), (2, .p 0 117 []), (3, .p 1 117 []), (8, .i .i64 i)], (.n (some (.box 117 (.v 117 z) false)) (.n (some (.box 117 (.v 117 w) false)) .e .e) .e), [], 2, some []⟩
def ekSpA (R : Type) (kx : Exit → Vm.St → Option R) : QSpA → Option R
  | .o x z i w => kx (.exit 0) ⟨[(0, .v 43 x), (2, .p 0 117 []), (3, .p 1 117 []), (8, .i .i64 i)], (.n (some (.box 117 (.v 117 z) false)) (.n (some (.box 117 (.v 117 w) false)) .e .e) .e), [], 16, some []⟩
def extSpA : Vm.St → Option PSpA
  | ⟨[(0, .v 43 x), (2, .p 0 117 []), (3, .p 1 117 []), (8, .i .i64 i)], (.n (some (.box 117 (.v 117 z) false)) (.n (some (.box 117 (.v 117 w) false)) .e .e) .e), [], 2, some []⟩ => some (.m x z i w)
  | _ => none
theorem extSpA_ok (τ : Vm.St) (x : PSpA) (h : extSpA τ = some x) : τ = tmSpA x := by
  unfold extSpA at h
  split at h <;> first | (cases h; rfl) | cases h
theorem stepSpA (R : Type) (of : Nat → Option Ob) (x : PSpA) (K : Vm.St → Option R) (kx : Exit → Vm.St → Option R) : execC T K1 (fun _ => none) false FU (ntOf Try.prog 82) of R (lp (codeOf Try.prog 82) 0) (tmSpA x) (sortN 0 [0, 2, 3, 8] 16 K kx) = BSpA R x (fun x' => K (tmSpA x')) (ekSpA R kx) := by
  cases x
  · kernel_rfl
noncomputable def HSpA : LS := loopH T K1 (fun _ => none) (ntOf Try.prog 82) (lp (codeOf Try.prog 82) 0) 0 [0, 2, 3, 8] 16 extSpA BSpA ekSpA
theorem HSpA_ok : LoopTk Try.prog T (ntOf Try.prog 82) 0 (lp (codeOf Try.prog 82) 0) HSpA :=
  loopH_ok follows T_ok hK1 hS1 loNat_none (loopsOK_none _) tmSpA extSpA_ok stepSpA
def tmSpB : PSpB → Vm.St
  | .m z i w => ⟨[(2, .p 0 117 []), (3, .p 1 117 []), (5, .i .i64 i)], (.n (some (.box 117 (.v 117 z) false)) (.n (some (.box 117 (.v 117 w) false)) .e .e) .e), [], 2, some []⟩
def ekSpB (R : Type) (kx : Exit → Vm.St → Option R) : QSpB → Option R
  | .o z i w => kx (.exit 2) ⟨[(2, .p 0 117 []), (3, .p 1 117 []), (5, .i .i64 i)], (.n (some (.box 117 (.v 117 z) false)) (.n (some (.box 117 (.v 117 w) false)) .e .e) .e), [], 16, some []⟩
def extSpB : Vm.St → Option PSpB
  | ⟨[(2, .p 0 117 []), (3, .p 1 117 []), (5, .i .i64 i)], (.n (some (.box 117 (.v 117 z) false)) (.n (some (.box 117 (.v 117 w) false)) .e .e) .e), [], 2, some []⟩ => some (.m z i w)
  | _ => none
theorem extSpB_ok (τ : Vm.St) (x : PSpB) (h : extSpB τ = some x) : τ = tmSpB x := by
  unfold extSpB at h
  split at h <;> first | (cases h; rfl) | cases h
theorem stepSpB (R : Type) (of : Nat → Option Ob) (x : PSpB) (K : Vm.St → Option R) (kx : Exit → Vm.St → Option R) : execC T K1 (fun _ => none) false FU (ntOf Try.prog 82) of R (lp (codeOf Try.prog 82) 1) (tmSpB x) (sortN 0 [2, 3, 5] 16 K kx) = BSpB R x (fun x' => K (tmSpB x')) (ekSpB R kx) := by
  cases x
  · kernel_rfl
noncomputable def HSpB : LS := loopH T K1 (fun _ => none) (ntOf Try.prog 82) (lp (codeOf Try.prog 82) 1) 0 [2, 3, 5] 16 extSpB BSpB ekSpB
theorem HSpB_ok : LoopTk Try.prog T (ntOf Try.prog 82) 0 (lp (codeOf Try.prog 82) 1) HSpB :=
  loopH_ok follows T_ok hK1 hS1 loNat_none (loopsOK_none _) tmSpB extSpB_ok stepSpB
noncomputable def LoSp : Nat → LC := atN 0 [(3, HSpA), (8, HSpB)]
theorem LoSp_ok : LoopsC Try.prog T 82 LoSp := loopsC_at 0 (List.forall_mem_cons.2 ⟨HSpA_ok.1, List.forall_mem_cons.2 ⟨HSpB_ok.1, fun _ h => by cases h⟩⟩) 2 (by kernel_rfl) ⟨⟨trivial, loI (s0 := HSpA) (by kernel_rfl) HSpA_ok⟩, loI (s0 := HSpB) (by kernel_rfl) HSpB_ok⟩
noncomputable def Gsp : FC := fun R xs k => match xs with
  | [x] => lpC (BSpA R) (hid FU) (.m x z64 0 z64) (fun | .o _ z _ w => lpC (BSpB R) (hid FU) (.m z 16 w) (fun | .o _ _ w => k [.d 117 w]))
  | _ => none
theorem run_sp (R : Type) (x : V) (k : List Rs → Option R) : runFC Try.prog T K1 LoSp false FU 82 R (mkAs T [43] [x]) (fun _ => none) 0 (fun out => ob (resC T false [.d 117] out) k) = Gsp R [x] k := by kernel_rfl
noncomputable def tab2 : List (Nat × SymC) := (82, pureS T false [43] (Fsp 117)) :: tab1
theorem tab2_ok : TabOK Try.prog T tab2 := by
  refine pure_run (sh := false) (rk := [.d 117]) (d := 4) (fu := FU) (Lo := LoSp) (G := Gsp) follows T_ok tab1_ok (Fsp_nat 117) (by kernel_rfl) LoSp_ok (fun R xs k htv => ?_) (fun xs rs htv hrs => ?_)
  · match xs, htv.len with
    | [x], _ => exact run_sp R x k
  · match xs, htv, htv.len with
    | [x], htv, _ =>
      obtain ⟨e, cs, hx⟩ := htv.head
      obtain ⟨bs, h1, h2⟩ := tv_slice (T := T) (el := 5) (kd := .u8) (by kernel_rfl) (by kernel_rfl) rfl hx
      simp only [Fsp] at hrs
      cases hl : Nat.ble 64 x.els.length with
      | false => rw [hl] at hrs; cases hrs
      | true =>
        rw [hl] at hrs
        have hl := Nat.le_of_ble_eq_true hl
        rw [h1, List.length_map] at hl
        exact (spread_law h1 (lt256 h2) hl HID (fun w => some [Rs.d 117 w])).trans hrs
noncomputable def K2 : KC := runAC Try.prog T tab2 false FU 4
theorem hK2 : K2.nat := runAC_nat tab2_ok 4
theorem hS2 : KOK Try.prog T K2.dir := runAC_ok follows T_ok tab2_ok 4
def tmMxA : PMxA → Vm.St
  | .m s z w k x i => ⟨[(2, .p 0 106 []), (4, .p 1 106 []), (5, .p 3 117 []), (6, .p 4 117 []), (7, .p 5 106 []), (18, .i .i64 i)], (.n (some (.box 106 (.v 106 s) false)) (.n (some (.box 106 (.v 106 z) false)) (.n (some (.box 117 (.v 117 w) false)) .e .e) (.n (some (.box 106 (.v 106 x) false)) .e .e)) (.n none (.n (some (.box 117 (.v 117 k) false)) .e .e) .e)), [], 6, some []⟩
def ekMxA (R : Type) (kx : Exit → Vm.St → Option R) : QMxA → Option R
  | .o s z w k x i => kx (.exit 0) ⟨[(2, .p 0 106 []), (4, .p 1 106 []), (5, .p 3 117 []), (6, .p 4 117 []), (7, .p 5 106 []), (18, .i .i64 i)], (.n (some (.box 106 (.v 106 s) false)) (.n (some (.box 106 (.v 106 z) false)) (.n (some (.box 117 (.v 117 w) false)) .e .e) (.n (some (.box 106 (.v 106 x) false)) .e .e)) (.n none (.n (some (.box 117 (.v 117 k) false)) .e .e) .e)), [], 16, some []⟩
def extMxA : Vm.St → Option PMxA
  | ⟨[(2, .p 0 106 []), (4, .p 1 106 []), (5, .p 3 117 []), (6, .p 4 117 []), (7, .p 5 106 []), (18, .i .i64 i)], (.n (some (.box 106 (.v 106 s) false)) (.n (some (.box 106 (.v 106 z) false)) (.n (some (.box 117 (.v 117 w) false)) .e .e) (.n (some (.box 106 (.v 106 x) false)) .e .e)) (.n none (.n (some (.box 117 (.v 117 k) false)) .e .e) .e)), [], 6, some []⟩ => some (.m s z w k x i)
  | _ => none
theorem extMxA_ok (τ : Vm.St) (x : PMxA) (h : extMxA τ = some x) : τ = tmMxA x := by
  unfold extMxA at h
  split at h <;> first | (cases h; rfl) | cases h
theorem stepMxA (R : Type) (of : Nat → Option Ob) (x : PMxA) (K : Vm.St → Option R) (kx : Exit → Vm.St → Option R) : execC T K2 (fun _ => none) false FU (ntOf Try.prog 75) of R (lp (codeOf Try.prog 75) 0) (tmMxA x) (sortN 0 [2, 4, 5, 6, 7, 18] 16 K kx) = BMxA R x (fun x' => K (tmMxA x')) (ekMxA R kx) := by
  cases x
  · kernel_rfl
noncomputable def HMxA : LS := loopH T K2 (fun _ => none) (ntOf Try.prog 75) (lp (codeOf Try.prog 75) 0) 0 [2, 4, 5, 6, 7, 18] 16 extMxA BMxA ekMxA
theorem HMxA_ok : LoopTk Try.prog T (ntOf Try.prog 75) 0 (lp (codeOf Try.prog 75) 0) HMxA :=
  loopH_ok follows T_ok hK2 hS2 loNat_none (loopsOK_none _) tmMxA extMxA_ok stepMxA
def tmMxB : PMxB → Vm.St
  | .m s z x i => ⟨[(2, .p 0 106 []), (4, .p 1 106 []), (7, .p 5 106 []), (98, .i .i64 i)], (.n (some (.box 106 (.v 106 s) false)) (.n (some (.box 106 (.v 106 z) false)) .e (.n (some (.box 106 (.v 106 x) false)) .e .e)) .e), [], 6, some []⟩
def ekMxB (R : Type) (kx : Exit → Vm.St → Option R) : QMxB → Option R
  | .o s z x i => kx (.exit 2) ⟨[(2, .p 0 106 []), (4, .p 1 106 []), (7, .p 5 106 []), (98, .i .i64 i)], (.n (some (.box 106 (.v 106 s) false)) (.n (some (.box 106 (.v 106 z) false)) .e (.n (some (.box 106 (.v 106 x) false)) .e .e)) .e), [], 16, some []⟩
def extMxB : Vm.St → Option PMxB
  | ⟨[(2, .p 0 106 []), (4, .p 1 106 []), (7, .p 5 106 []), (98, .i .i64 i)], (.n (some (.box 106 (.v 106 s) false)) (.n (some (.box 106 (.v 106 z) false)) .e (.n (some (.box 106 (.v 106 x) false)) .e .e)) .e), [], 6, some []⟩ => some (.m s z x i)
  | _ => none
theorem extMxB_ok (τ : Vm.St) (x : PMxB) (h : extMxB τ = some x) : τ = tmMxB x := by
  unfold extMxB at h
  split at h <;> first | (cases h; rfl) | cases h
theorem stepMxB (R : Type) (of : Nat → Option Ob) (x : PMxB) (K : Vm.St → Option R) (kx : Exit → Vm.St → Option R) : execC T K2 (fun _ => none) false FU (ntOf Try.prog 75) of R (lp (codeOf Try.prog 75) 1) (tmMxB x) (sortN 0 [2, 4, 7, 98] 16 K kx) = BMxB R x (fun x' => K (tmMxB x')) (ekMxB R kx) := by
  cases x
  · kernel_rfl
noncomputable def HMxB : LS := loopH T K2 (fun _ => none) (ntOf Try.prog 75) (lp (codeOf Try.prog 75) 1) 0 [2, 4, 7, 98] 16 extMxB BMxB ekMxB
theorem HMxB_ok : LoopTk Try.prog T (ntOf Try.prog 75) 0 (lp (codeOf Try.prog 75) 1) HMxB :=
  loopH_ok follows T_ok hK2 hS2 loNat_none (loopsOK_none _) tmMxB extMxB_ok stepMxB
noncomputable def LoMx : Nat → LC := atN 0 [(3, HMxA), (11, HMxB)]
theorem LoMx_ok : LoopsC Try.prog T 75 LoMx := loopsC_at 0 (List.forall_mem_cons.2 ⟨HMxA_ok.1, List.forall_mem_cons.2 ⟨HMxB_ok.1, fun _ h => by cases h⟩⟩) 2 (by kernel_rfl) ⟨⟨trivial, loI (s0 := HMxA) (by kernel_rfl) HMxA_ok⟩, loI (s0 := HMxB) (by kernel_rfl) HMxB_ok⟩
noncomputable def Gmx : FC := fun R xs k => match xs with
  | [s, b] => bif Nat.ble 64 b.els.length then lpC (BMxA R) (hid FU) (.m s z8 (spW b) keysV s 0) (fun | .o s z _ _ x _ => lpC (BMxB R) (hid FU) (.m s z x 0) (fun | .o s _ _ _ => k [.d 106 s])) else none
  | _ => none
theorem run_mx (R : Type) (s b : V) (k : List Rs → Option R) : runFC Try.prog T K2 LoMx false FU 75 R (mkAs T [106, 43] [s, b]) (fun _ => none) 0 (fun out => ob (resC T false [.d 106] out) k) = Gmx R [s, b] k := by kernel_rfl
noncomputable def tab3 : List (Nat × SymC) := (75, pureS T false [106, 43] (Fmx 106)) :: tab2
theorem tab3_ok : TabOK Try.prog T tab3 := by
  refine pure_run (sh := false) (rk := [.d 106]) (d := 4) (fu := FU) (Lo := LoMx) (G := Gmx) follows T_ok tab2_ok (Fmx_nat 106) (by kernel_rfl) LoMx_ok (fun R xs k htv => ?_) (fun xs rs htv hrs => ?_)
  · match xs, htv.len with
    | [s, b], _ => exact run_mx R s b k
  · match xs, htv, htv.len with
    | [s, b], htv, _ =>
      obtain ⟨e, cs, hs⟩ := htv.head
      obtain ⟨e2, cs2, hx⟩ := htv.tail.head
      obtain ⟨bs, h1, h2⟩ := tv_slice (T := T) (el := 5) (kd := .u8) (by kernel_rfl) (by kernel_rfl) rfl hx
      obtain ⟨ns, rfl, n1, n2⟩ := tv_arr (T := T) (n := 8) (el := 22) (kd := .u32) (by kernel_rfl) (by kernel_rfl) rfl hs
      obtain ⟨s8, hs8, hok⟩ := stV_of n1 n2
      rw [hs8] at hrs ⊢
      simp only [Fmx] at hrs
      cases hl : Nat.ble 64 b.els.length with
      | false => rw [hl] at hrs; cases hrs
      | true =>
        rw [hl] at hrs
        simp only [Gmx, hl, cond_true]
        have hl := Nat.le_of_ble_eq_true hl
        rw [h1, List.length_map] at hl
        exact (mix_law hok h1 (lt256 h2) hl HID (fun w => some [Rs.d 106 w])).trans hrs
noncomputable def K3 : KC := runAC Try.prog T tab3 false FU 4
theorem hK3 : K3.nat := runAC_nat tab3_ok 4
theorem hS3 : KOK Try.prog T K3.dir := runAC_ok follows T_ok tab3_ok 4
end Go.Proofs.Ytgnfgafiegimoaa

namespace Go.Proofs.Ytgnfgafiegimoaa
open Go.Vm
set_option maxRecDepth 100000
set_option linter.unusedVariables false
def tmPdA : PPdA → Vm.St
  | .m b xs => ⟨[(0, .v 43 b), (3, .o 1 1)], (.n none (.n (some (.row 5 1 xs false false)) .e .e) .e), [], 2, some []⟩
def ekPdA (R : Type) (kx : Exit → Vm.St → Option R) : QPdA → Option R
  | .o b xs => kx (.exit 0) ⟨[(0, .v 43 b), (3, .o 1 1)], (.n none (.n (some (.row 5 1 xs false false)) .e .e) .e), [], 8, some []⟩
def extPdA : Vm.St → Option PPdA
  | ⟨[(0, .v 43 b), (3, .o 1 1)], (.n none (.n (some (.row 5 1 xs false false)) .e .e) .e), [], 2, some []⟩ => some (.m b xs)
  | _ => none
theorem extPdA_ok (τ : Vm.St) (x : PPdA) (h : extPdA τ = some x) : τ = tmPdA x := by
  unfold extPdA at h
  split at h <;> first | (cases h; rfl) | cases h
theorem stepPdA (R : Type) (of : Nat → Option Ob) (x : PPdA) (K : Vm.St → Option R) (kx : Exit → Vm.St → Option R) : execC T K3 (fun _ => none) false FU (ntOf Try.prog 60) of R (lp (codeOf Try.prog 60) 0) (tmPdA x) (sortN 0 [0, 3] 8 K kx) = BPdA R x (fun x' => K (tmPdA x')) (ekPdA R kx) := by
  cases x
  · kernel_rfl
noncomputable def HPdA : LS := loopH T K3 (fun _ => none) (ntOf Try.prog 60) (lp (codeOf Try.prog 60) 0) 0 [0, 3] 8 extPdA BPdA ekPdA
theorem HPdA_ok : LoopTk Try.prog T (ntOf Try.prog 60) 0 (lp (codeOf Try.prog 60) 0) HPdA :=
  loopH_ok follows T_ok hK3 hS3 loNat_none (loopsOK_none _) tmPdA extPdA_ok stepPdA
noncomputable def LoPd : Nat → LC := atN 0 [(2, HPdA)]
theorem LoPd_ok : LoopsC Try.prog T 60 LoPd := loopsC_at 0 (List.forall_mem_cons.2 ⟨HPdA_ok.1, fun _ h => by cases h⟩) 2 (by kernel_rfl) ⟨⟨trivial, loI (s0 := HPdA) (by kernel_rfl) HPdA_ok⟩, loN (by kernel_rfl)⟩

theorem run_pd (R : Type) (b : V) (k : List Rs → Option R) : runFC Try.prog T K3 LoPd false FU 60 R (mkAs T [43] [b]) (fun _ => none) 0 (fun out => ob (resC T false [.r 5] out) k) = Gpd 5 R [b] k := by kernel_rfl
noncomputable def tab4 : List (Nat × SymC) := (60, pureS T false [43] (Fpd 5)) :: tab3
theorem tab4_ok : TabOK Try.prog T tab4 := by
  refine pure_run (sh := false) (rk := [.r 5]) (d := 4) (fu := FU) (Lo := LoPd) (G := Gpd 5) follows T_ok tab3_ok (Fpd_nat 5) (by kernel_rfl) LoPd_ok (fun R xs k htv => ?_) (fun xs rs htv hrs => ?_)
  · match xs, htv.len with
    | [b], _ => exact run_pd R b k
  · match xs, htv.len with
    | [b], _ => exact pd_law 5 hrs
noncomputable def K4 : KC := runAC Try.prog T tab4 false FU 4
theorem hK4 : K4.nat := runAC_nat tab4_ok 4
theorem hS4 : KOK Try.prog T K4.dir := runAC_ok follows T_ok tab4_ok 4
def tmSmA : PSmA → Vm.St
  | .m z v xs kk at_ ws i => ⟨[(2, .p 0 24 []), (3, .p 1 91 []), (4, .o 2 1), (5, .p 4 92 []), (6, .i .i64 at_), (7, .o 5 1), (8, .i .i64 i)], (.n (some (.box 24 (.v 24 z) false)) (.n (some (.box 91 (.v 91 v) false)) .e (.n (some (.row 32 1 ws false false)) .e .e)) (.n (some (.row 5 1 xs false false)) (.n (some (.box 92 (.v 92 kk) false)) .e .e) .e)), [], 6, some []⟩
def ekSmA (R : Type) (kx : Exit → Vm.St → Option R) : QSmA → Option R
  | .o z v xs kk at_ ws i => kx (.exit 2) ⟨[(2, .p 0 24 []), (3, .p 1 91 []), (4, .o 2 1), (5, .p 4 92 []), (6, .i .i64 at_), (7, .o 5 1), (8, .i .i64 i)], (.n (some (.box 24 (.v 24 z) false)) (.n (some (.box 91 (.v 91 v) false)) .e (.n (some (.row 32 1 ws false false)) .e .e)) (.n (some (.row 5 1 xs false false)) (.n (some (.box 92 (.v 92 kk) false)) .e .e) .e)), [], 16, some []⟩
def extSmA : Vm.St → Option PSmA
  | ⟨[(2, .p 0 24 []), (3, .p 1 91 []), (4, .o 2 1), (5, .p 4 92 []), (6, .i .i64 at_), (7, .o 5 1), (8, .i .i64 i)], (.n (some (.box 24 (.v 24 z) false)) (.n (some (.box 91 (.v 91 v) false)) .e (.n (some (.row 32 1 ws false false)) .e .e)) (.n (some (.row 5 1 xs false false)) (.n (some (.box 92 (.v 92 kk) false)) .e .e) .e)), [], 6, some []⟩ => some (.m z v xs kk at_ ws i)
  | _ => none
theorem extSmA_ok (τ : Vm.St) (x : PSmA) (h : extSmA τ = some x) : τ = tmSmA x := by
  unfold extSmA at h
  split at h <;> first | (cases h; rfl) | cases h
theorem stepSmA (R : Type) (of : Nat → Option Ob) (x : PSmA) (K : Vm.St → Option R) (kx : Exit → Vm.St → Option R) : execC T K4 (fun _ => none) false FU (ntOf Try.prog 48) of R (lp (codeOf Try.prog 48) 1) (tmSmA x) (sortN 0 [2, 3, 4, 5, 6, 7, 8] 16 K kx) = BSmA R x (fun x' => K (tmSmA x')) (ekSmA R kx) := by
  cases x
  · kernel_rfl
noncomputable def HSmA : LS := loopH T K4 (fun _ => none) (ntOf Try.prog 48) (lp (codeOf Try.prog 48) 1) 0 [2, 3, 4, 5, 6, 7, 8] 16 extSmA BSmA ekSmA
theorem HSmA_ok : LoopTk Try.prog T (ntOf Try.prog 48) 0 (lp (codeOf Try.prog 48) 1) HSmA :=
  loopH_ok follows T_ok hK4 hS4 loNat_none (loopsOK_none _) tmSmA extSmA_ok stepSmA
def tmSmB : PSmB → Vm.St
  | .m z v xs kk at_ ws x i => ⟨[(2, .p 0 24 []), (3, .p 1 91 []), (4, .o 2 1), (5, .p 4 92 []), (6, .i .i64 at_), (7, .o 5 1), (13, .p 16 91 []), (14, .i .i64 i)], (.n (some (.box 24 (.v 24 z) false)) (.n (some (.box 91 (.v 91 v) false)) .e (.n (some (.row 32 1 ws false false)) .e .e)) (.n (some (.row 5 1 xs false false)) (.n (some (.box 92 (.v 92 kk) false)) (.n none (.n (some (.box 91 (.v 91 x) false)) .e .e) .e) .e) .e)), [], 17, some []⟩
def ekSmB (R : Type) (kx : Exit → Vm.St → Option R) : QSmB → Option R
  | .o z v xs kk at_ ws x i => kx (.exit 6) ⟨[(2, .p 0 24 []), (3, .p 1 91 []), (4, .o 2 1), (5, .p 4 92 []), (6, .i .i64 at_), (7, .o 5 1), (13, .p 16 91 []), (14, .i .i64 i)], (.n (some (.box 24 (.v 24 z) false)) (.n (some (.box 91 (.v 91 v) false)) .e (.n (some (.row 32 1 ws false false)) .e .e)) (.n (some (.row 5 1 xs false false)) (.n (some (.box 92 (.v 92 kk) false)) (.n none (.n (some (.box 91 (.v 91 x) false)) .e .e) .e) .e) .e)), [], 32, some []⟩
def extSmB : Vm.St → Option PSmB
  | ⟨[(2, .p 0 24 []), (3, .p 1 91 []), (4, .o 2 1), (5, .p 4 92 []), (6, .i .i64 at_), (7, .o 5 1), (13, .p 16 91 []), (14, .i .i64 i)], (.n (some (.box 24 (.v 24 z) false)) (.n (some (.box 91 (.v 91 v) false)) .e (.n (some (.row 32 1 ws false false)) .e .e)) (.n (some (.row 5 1 xs false false)) (.n (some (.box 92 (.v 92 kk) false)) (.n none (.n (some (.box 91 (.v 91 x) false)) .e .e) .e) .e) .e)), [], 17, some []⟩ => some (.m z v xs kk at_ ws x i)
  | _ => none
theorem extSmB_ok (τ : Vm.St) (x : PSmB) (h : extSmB τ = some x) : τ = tmSmB x := by
  unfold extSmB at h
  split at h <;> first | (cases h; rfl) | cases h
theorem stepSmB (R : Type) (of : Nat → Option Ob) (x : PSmB) (K : Vm.St → Option R) (kx : Exit → Vm.St → Option R) : execC T K4 (fun _ => none) false FU (ntOf Try.prog 48) of R (lp (codeOf Try.prog 48) 3) (tmSmB x) (sortN 0 [2, 3, 4, 5, 6, 7, 13, 14] 32 K kx) = BSmB R x (fun x' => K (tmSmB x')) (ekSmB R kx) := by
  cases x
  · kernel_rfl
noncomputable def HSmB : LS := loopH T K4 (fun _ => none) (ntOf Try.prog 48) (lp (codeOf Try.prog 48) 3) 0 [2, 3, 4, 5, 6, 7, 13, 14] 32 extSmB BSmB ekSmB
theorem HSmB_ok : LoopTk Try.prog T (ntOf Try.prog 48) 0 (lp (codeOf Try.prog 48) 3) HSmB :=
  loopH_ok follows T_ok hK4 hS4 loNat_none (loopsOK_none _) tmSmB extSmB_ok stepSmB
def tmSmO : PSmO → Vm.St
  | .m z v xs kk at_ => ⟨[(2, .p 0 24 []), (3, .p 1 91 []), (4, .o 2 1), (5, .p 4 92 []), (6, .i .i64 at_)], (.n (some (.box 24 (.v 24 z) false)) (.n (some (.box 91 (.v 91 v) false)) .e .e) (.n (some (.row 5 1 xs false false)) (.n (some (.box 92 (.v 92 kk) false)) .e .e) .e)), [], 5, some []⟩
def ekSmO (R : Type) (kx : Exit → Vm.St → Option R) : QSmO → Option R
  | .o z v xs kk at_ => kx (.exit 0) ⟨[(2, .p 0 24 []), (3, .p 1 91 []), (4, .o 2 1), (5, .p 4 92 []), (6, .i .i64 at_)], (.n (some (.box 24 (.v 24 z) false)) (.n (some (.box 91 (.v 91 v) false)) .e .e) (.n (some (.row 5 1 xs false false)) (.n (some (.box 92 (.v 92 kk) false)) .e .e) .e)), [], 64, some []⟩
def extSmO : Vm.St → Option PSmO
  | ⟨[(2, .p 0 24 []), (3, .p 1 91 []), (4, .o 2 1), (5, .p 4 92 []), (6, .i .i64 at_)], (.n (some (.box 24 (.v 24 z) false)) (.n (some (.box 91 (.v 91 v) false)) .e .e) (.n (some (.row 5 1 xs false false)) (.n (some (.box 92 (.v 92 kk) false)) .e .e) .e)), [], 5, some []⟩ => some (.m z v xs kk at_)
  | _ => none
theorem extSmO_ok (τ : Vm.St) (x : PSmO) (h : extSmO τ = some x) : τ = tmSmO x := by
  unfold extSmO at h
  split at h <;> first | (cases h; rfl) | cases h
theorem stepSmO (R : Type) (of : Nat → Option Ob) (x : PSmO) (K : Vm.St → Option R) (kx : Exit → Vm.St → Option R) : execC T K4 (loT [(9, HSmA), (23, HSmB)]) false FU (ntOf Try.prog 48) of R (lp (codeOf Try.prog 48) 0) (tmSmO x) (sortN 0 [2, 3, 4, 5, 6] 64 K kx) = BSmO R x (fun x' => K (tmSmO x')) (ekSmO R kx) := by
  cases x
  · kernel_rfl
noncomputable def HSmO : LS := loopH T K4 (loT [(9, HSmA), (23, HSmB)]) (ntOf Try.prog 48) (lp (codeOf Try.prog 48) 0) 0 [2, 3, 4, 5, 6] 64 extSmO BSmO ekSmO
theorem HSmO_ok : LoopTk Try.prog T (ntOf Try.prog 48) 0 (lp (codeOf Try.prog 48) 0) HSmO :=
  loopH_ok follows T_ok hK4 hS4 (loT_nat (List.forall_mem_cons.2 ⟨HSmA_ok.1, List.forall_mem_cons.2 ⟨HSmB_ok.1, fun _ h => by cases h⟩⟩)) (loopsOK_at 5 (by kernel_rfl) ⟨⟨⟨⟨⟨trivial, loI (s0 := HSmA) (by kernel_rfl) ((show lp (lp (codeOf Try.prog 48) 0) 0 = lp (codeOf Try.prog 48) 1 from by kernel_rfl) ▸ HSmA_ok)⟩, loN (by kernel_rfl)⟩, loI (s0 := HSmB) (by kernel_rfl) ((show lp (lp (codeOf Try.prog 48) 0) 2 = lp (codeOf Try.prog 48) 3 from by kernel_rfl) ▸ HSmB_ok)⟩, loN (by kernel_rfl)⟩, loN (by kernel_rfl)⟩) tmSmO extSmO_ok stepSmO
noncomputable def LoSm : Nat → LC := atN 0 [(5, HSmO)]
theorem LoSm_ok : LoopsC Try.prog T 48 LoSm := loopsC_at 0 (List.forall_mem_cons.2 ⟨HSmO_ok.1, fun _ h => by cases h⟩) 8 (by kernel_rfl) ⟨⟨⟨⟨⟨⟨⟨⟨trivial, loI (s0 := HSmO) (by kernel_rfl) HSmO_ok⟩, loN (by kernel_rfl)⟩, loN (by kernel_rfl)⟩, loN (by kernel_rfl)⟩, loN (by kernel_rfl)⟩, loN (by kernel_rfl)⟩, loN (by kernel_rfl)⟩, loN (by kernel_rfl)⟩

theorem run_sm (R : Type) (b : V) (k : List Rs → Option R) : runFC Try.prog T K4 LoSm false FU 48 R (mkAs T [43] [b]) (fun _ => none) 0 (fun out => ob (resC T false [.d 24] out) k) = Gsm 24 R [b] k := by kernel_rfl
noncomputable def tab5 : List (Nat × SymC) := (48, pureS T false [43] (Fsm 24)) :: tab4
theorem tab5_ok : TabOK Try.prog T tab5 := by
  refine pure_run (sh := false) (rk := [.d 24]) (d := 4) (fu := FU) (Lo := LoSm) (G := Gsm 24) follows T_ok tab4_ok (Fsm_nat 24) (by kernel_rfl) LoSm_ok (fun R xs k htv => ?_) (fun xs rs htv hrs => ?_)
  · match xs, htv.len with
    | [b], _ => exact run_sm R b k
  · match xs, htv, htv.len with
    | [b], htv, _ =>
      obtain ⟨e, cs, hx⟩ := htv.head
      obtain ⟨bs, h1, h2⟩ := tv_slice (T := T) (el := 5) (kd := .u8) (by kernel_rfl) (by kernel_rfl) rfl hx
      exact sm_law 24 h1 (lt256 h2) hrs
noncomputable def K5 : KC := runAC Try.prog T tab5 false FU 4
theorem hK5 : K5.nat := runAC_nat tab5_ok 4
theorem hS5 : KOK Try.prog T K5.dir := runAC_ok follows T_ok tab5_ok 4
end Go.Proofs.Ytgnfgafiegimoaa

namespace Go.Proofs.Ytgnfgafiegimoaa
open Go.Vm
set_option maxRecDepth 100000
set_option linter.unusedVariables false
noncomputable def tabA0 : List (Nat × Sym) := [(75, (pureS T false [106, 43] (seeF (Fmx 106))).dir), (42, carry64), (43, borrow64)]
theorem tabA0_ok : AllS Try.prog T tabA0 := ⟨TabOK.see (TabOK.at tab3_ok (by kernel_rfl)), carry64_ok Try.func42 (by kernel_rfl) (by kernel_rfl) (by kernel_rfl) (by kernel_rfl), borrow64_ok Try.func43 (by kernel_rfl) (by kernel_rfl) (by kernel_rfl) (by kernel_rfl), trivial⟩
theorem alive_run : ob (runZ Try.prog T tabA0 100000 60 5 (mkAs T [] []) (fun _ => none) 0) (fun out => resC T true [.d 4] out) = some [.d 4 (.b true)] := by kernel_rfl
noncomputable def aliveC : SymC := pureS T true [] (gF (fun _ => true) (fun _ => [.d 4 (.b true)]))
theorem aliveC_nat : aliveC.nat := pureS_nat (gF_nat _ _)
theorem alive : SymOK Try.prog T 5 aliveC.dir :=
  pure_ok (s := ofSym (runZ Try.prog T tabA0 100000 60 5)) (ofSym_nat _) (by rw [ofSym_dir]; exact runZ_ok follows T_ok tabA0_ok) (rk := [.d 4]) (gF_nat _ _) rfl (fun xs rs htv hrs => by
    have hl := htv.len
    cases xs with
    | cons _ _ => cases hl
    | nil =>
      obtain ⟨_, rfl⟩ := gF_at hrs
      exact alive_run)
end Go.Proofs.Ytgnfgafiegimoaa

namespace Go.Proofs.Ytgnfgafiegimoaa
open Go.Vm
set_option maxRecDepth 100000
set_option linter.unusedVariables false
set_option linter.constructorNameAsVariable false
noncomputable def tab6 : List (Nat × SymC) := (42, Wd.carryC) :: (43, Wd.borrowC) :: tab5
theorem tab6_ok : TabOK Try.prog T tab6 := (tab5_ok.cons Wd.borrowC_nat (by rw [Wd.borrowC_dir]; exact borrow64_ok Try.func43 (by kernel_rfl) (by kernel_rfl) (by kernel_rfl) (by kernel_rfl))).cons Wd.carryC_nat (by rw [Wd.carryC_dir]; exact carry64_ok Try.func42 (by kernel_rfl) (by kernel_rfl) (by kernel_rfl) (by kernel_rfl))
noncomputable def K6 : KC := runAC Try.prog T tab6 false FU 4
theorem hK6 : K6.nat := runAC_nat tab6_ok 4
theorem hS6 : KOK Try.prog T K6.dir := runAC_ok follows T_ok tab6_ok 4
theorem run_ln (n : Int) : runFC Try.prog T K6 (fun _ _ => none) false FU 41 (List Rs) (mkAs T [32] [.i n]) (fun _ => none) 0 (fun out => resC T true [.d 3] out) = Wd.ln64 n (fun b => some [.d 3 (.i b)]) := by kernel_rfl
noncomputable def tab7 : List (Nat × SymC) := (41, pureS T true [32] (gF (fun _ => true) (fun xs => match xs with | [x] => [.d 3 (.i (Wd.blen x.int.toNat : Int))] | _ => []))) :: tab6
theorem tab7_ok : TabOK Try.prog T tab7 := by
  refine pure_conG (sh := true) (rk := [.d 3]) (d := 4) (fu := FU) (Lo := (fun _ _ => none)) (ds := [.int .u64]) follows T_ok tab6_ok (by kernel_rfl) loopsC_none 40 (by kernel_rfl) (fun xs hd hg => ?_)
  obtain ⟨a, rfl, ha⟩ := hasL1 hd
  obtain ⟨n, rfl, h1, h2⟩ := ha
  simp only [lo, hi] at h1 h2
  exact (run_ln n).trans (Wd.ln64_law (by omega))
noncomputable def K7 : KC := runAC Try.prog T tab7 false FU 4
theorem hK7 : K7.nat := runAC_nat tab7_ok 4
theorem hS7 : KOK Try.prog T K7.dir := runAC_ok follows T_ok tab7_ok 4
theorem run_bi (a0 a1 a2 a3 : Int) : runFC Try.prog T K7 (fun _ _ => none) false FU 25 (List Rs) (mkAs T [34] [.l [.i a0, .i a1, .i a2, .i a3]]) (fun _ => none) 0 (fun out => resC T true [.d 3] out) = Wd.biG a0 a1 a2 a3 (fun b => some [.d 3 (.i b)]) := by kernel_rfl
noncomputable def tab8 : List (Nat × SymC) := (25, pureS T true [34] (gF (fun _ => true) (fun xs => match xs with | [x] => [.d 3 (.i (Wd.blen (Wd.wN x) : Int))] | _ => []))) :: tab7
theorem tab8_ok : TabOK Try.prog T tab8 := by
  refine pure_conG (sh := true) (rk := [.d 3]) (d := 4) (fu := FU) (Lo := (fun _ _ => none)) (ds := [Wd.DWide]) follows T_ok tab7_ok (by kernel_rfl) loopsC_none 40 (by kernel_rfl) (fun xs hd hg => ?_)
  obtain ⟨a, rfl, ha⟩ := hasL1 hd
  obtain ⟨a, h, rfl, e⟩ := Wd.wide_v ha
  refine (run_bi _ _ _ _).trans ?_
  rw [Wd.biG_law h]; dsimp only; rw [e]
noncomputable def K8 : KC := runAC Try.prog T tab8 false FU 4
theorem hK8 : K8.nat := runAC_nat tab8_ok 4
theorem hS8 : KOK Try.prog T K8.dir := runAC_ok follows T_ok tab8_ok 4
theorem run_suG (a0 a1 a2 a3 b0 b1 b2 b3 : Int) : runFC Try.prog T K8 (fun _ _ => none) false FU 28 (List Rs) (mkAs T [34, 34] [.l [.i a0, .i a1, .i a2, .i a3], .l [.i b0, .i b1, .i b2, .i b3]]) (fun _ => none) 0 (fun out => resC T true [.d 34, .d 4] out) = Wd.suG a0 a1 a2 a3 b0 b1 b2 b3 (fun x q => some [.d 34 x, .d 4 (.b q)]) := by kernel_rfl
noncomputable def tab9 : List (Nat × SymC) := (28, pureS T true [34, 34] (gF (fun _ => true) (fun xs => match xs with | [x, y] => [.d 34 (Wd.wV (Wd.subW (Wd.wN x) (Wd.wN y))), .d 4 (.b (decide (Wd.wN x < Wd.wN y)))] | _ => []))) :: tab8
theorem tab9_ok : TabOK Try.prog T tab9 := by
  refine pure_conG (sh := true) (rk := [.d 34, .d 4]) (d := 4) (fu := FU) (Lo := (fun _ _ => none)) (ds := [Wd.DWide, Wd.DWide]) follows T_ok tab8_ok (by kernel_rfl) loopsC_none 40 (by kernel_rfl) (fun xs hd hg => ?_)
  obtain ⟨a, b, rfl, ha, hb⟩ := hasL2 hd
  obtain ⟨a, h, rfl, e⟩ := Wd.wide_v ha
  obtain ⟨b, h', rfl, e'⟩ := Wd.wide_v hb
  refine (run_suG _ _ _ _ _ _ _ _).trans ?_
  rw [Wd.suG_law h h']; dsimp only; rw [e, e']
noncomputable def K9 : KC := runAC Try.prog T tab9 false FU 4
theorem hK9 : K9.nat := runAC_nat tab9_ok 4
theorem hS9 : KOK Try.prog T K9.dir := runAC_ok follows T_ok tab9_ok 4
theorem run_adG (a0 a1 a2 a3 b0 b1 b2 b3 : Int) : runFC Try.prog T K9 (fun _ _ => none) false FU 27 (List Rs) (mkAs T [34, 34] [.l [.i a0, .i a1, .i a2, .i a3], .l [.i b0, .i b1, .i b2, .i b3]]) (fun _ => none) 0 (fun out => resC T true [.d 34, .d 4] out) = Wd.adG a0 a1 a2 a3 b0 b1 b2 b3 (fun x q => some [.d 34 x, .d 4 (.b q)]) := by kernel_rfl
noncomputable def tab10 : List (Nat × SymC) := (27, pureS T true [34, 34] (gF (fun _ => true) (fun xs => match xs with | [x, y] => [.d 34 (Wd.wV (Wd.addW (Wd.wN x) (Wd.wN y))), .d 4 (.b (decide (2 ^ 256 ≤ Wd.wN x + Wd.wN y)))] | _ => []))) :: tab9
theorem tab10_ok : TabOK Try.prog T tab10 := by
  refine pure_conG (sh := true) (rk := [.d 34, .d 4]) (d := 4) (fu := FU) (Lo := (fun _ _ => none)) (ds := [Wd.DWide, Wd.DWide]) follows T_ok tab9_ok (by kernel_rfl) loopsC_none 40 (by kernel_rfl) (fun xs hd hg => ?_)
  obtain ⟨a, b, rfl, ha, hb⟩ := hasL2 hd
  obtain ⟨a, h, rfl, e⟩ := Wd.wide_v ha
  obtain ⟨b, h', rfl, e'⟩ := Wd.wide_v hb
  refine (run_adG _ _ _ _ _ _ _ _).trans ?_
  rw [Wd.adG_law h h']; dsimp only; rw [e, e']
noncomputable def K10 : KC := runAC Try.prog T tab10 false FU 4
theorem hK10 : K10.nat := runAC_nat tab10_ok 4
theorem hS10 : KOK Try.prog T K10.dir := runAC_ok follows T_ok tab10_ok 4
open Go.Vm.Wd (PLf QLf BLf PRg QRg BRg)
def tmLf : PLf → Vm.St
  | .m x r0 r n i => ⟨[(1, .i .i64 n), (2, .p 0 34 []), (4, .p 1 34 []), (5, .p 2 34 []), (6, .i .i64 i)], (.n (some (.box 34 (.v 34 x) false)) (.n (some (.box 34 (.v 34 r0) false)) .e .e) (.n (some (.box 34 (.v 34 r) false)) .e .e)), [], 3, some []⟩
def ekLf (R : Type) (kx : Exit → Vm.St → Option R) : QLf → Option R
  | .o x r0 r n i => kx (.exit 0) ⟨[(1, .i .i64 n), (2, .p 0 34 []), (4, .p 1 34 []), (5, .p 2 34 []), (6, .i .i64 i)], (.n (some (.box 34 (.v 34 x) false)) (.n (some (.box 34 (.v 34 r0) false)) .e .e) (.n (some (.box 34 (.v 34 r) false)) .e .e)), [], 16, some []⟩
def extLf : Vm.St → Option PLf
  | ⟨[(1, .i .i64 n), (2, .p 0 34 []), (4, .p 1 34 []), (5, .p 2 34 []), (6, .i .i64 i)], (.n (some (.box 34 (.v 34 x) false)) (.n (some (.box 34 (.v 34 r0) false)) .e .e) (.n (some (.box 34 (.v 34 r) false)) .e .e)), [], 3, some []⟩ => some (.m x r0 r n i)
  | _ => none
theorem extLf_ok (τ : Vm.St) (x : PLf) (h : extLf τ = some x) : τ = tmLf x := by
  unfold extLf at h
  split at h <;> first | (cases h; rfl) | cases h
theorem stepLf (R : Type) (of : Nat → Option Ob) (x : PLf) (K : Vm.St → Option R) (kx : Exit → Vm.St → Option R) : execC T K10 (fun _ => none) false FU (ntOf Try.prog 24) of R (lp (codeOf Try.prog 24) 0) (tmLf x) (sortN 0 [1, 2, 4, 5, 6] 16 K kx) = BLf R x (fun x' => K (tmLf x')) (ekLf R kx) := by
  cases x
  · kernel_rfl
noncomputable def HLf : LS := loopH T K10 (fun _ => none) (ntOf Try.prog 24) (lp (codeOf Try.prog 24) 0) 0 [1, 2, 4, 5, 6] 16 extLf BLf ekLf
theorem HLf_ok : LoopTk Try.prog T (ntOf Try.prog 24) 0 (lp (codeOf Try.prog 24) 0) HLf :=
  loopH_ok follows T_ok hK10 hS10 loNat_none (loopsOK_none _) tmLf extLf_ok stepLf
noncomputable def LoLf : Nat → LC := atN 0 [(5, HLf)]
theorem LoLf_ok : LoopsC Try.prog T 24 LoLf := loopsC_at 0 (List.forall_mem_cons.2 ⟨HLf_ok.1, fun _ h => by cases h⟩) 1 (by kernel_rfl) ⟨trivial, loI (s0 := HLf) (by kernel_rfl) HLf_ok⟩
theorem run_Lf (x : V) (n : Int) : runFC Try.prog T K10 LoLf false FU 24 (List Rs) (mkAs T [34, 3] [x, .i n]) (fun _ => none) 0 (fun out => resC T true [.d 34] out) = Wd.lfG x n (fun r => some [.d 34 r]) := by kernel_rfl
noncomputable def tab11 : List (Nat × SymC) := (24, pureS T true [34, 3] (gF (fun _ => true) (fun xs => match xs with | [x, n] => [.d 34 (Wd.wV (Wd.leftW (Wd.wN x) n.int.toNat))] | _ => []))) :: tab10
theorem tab11_ok : TabOK Try.prog T tab11 := by
  refine pure_conG (sh := true) (rk := [.d 34]) (d := 4) (fu := FU) (Lo := LoLf) (ds := [Wd.DWide, .int .i64]) follows T_ok tab10_ok (by kernel_rfl) LoLf_ok 40 (by kernel_rfl) (fun xs hd hg => ?_)
  obtain ⟨a, b, rfl, ha, hb⟩ := hasL2 hd
  obtain ⟨a, h, rfl, e⟩ := Wd.wide_v ha
  obtain ⟨n, rfl, _, h2⟩ := hb
  simp only [hi] at h2
  refine (run_Lf _ _).trans ?_
  rw [Wd.lfG_law h h2]; dsimp only; rw [e]; rfl
noncomputable def K11 : KC := runAC Try.prog T tab11 false FU 4
theorem hK11 : K11.nat := runAC_nat tab11_ok 4
theorem hS11 : KOK Try.prog T K11.dir := runAC_ok follows T_ok tab11_ok 4
def tmRg : PRg → Vm.St
  | .m x r0 r n i => ⟨[(1, .i .i64 n), (2, .p 0 34 []), (4, .p 1 34 []), (5, .p 2 34 []), (6, .i .i64 i)], (.n (some (.box 34 (.v 34 x) false)) (.n (some (.box 34 (.v 34 r0) false)) .e .e) (.n (some (.box 34 (.v 34 r) false)) .e .e)), [], 3, some []⟩
def ekRg (R : Type) (kx : Exit → Vm.St → Option R) : QRg → Option R
  | .o x r0 r n i => kx (.exit 0) ⟨[(1, .i .i64 n), (2, .p 0 34 []), (4, .p 1 34 []), (5, .p 2 34 []), (6, .i .i64 i)], (.n (some (.box 34 (.v 34 x) false)) (.n (some (.box 34 (.v 34 r0) false)) .e .e) (.n (some (.box 34 (.v 34 r) false)) .e .e)), [], 16, some []⟩
def extRg : Vm.St → Option PRg
  | ⟨[(1, .i .i64 n), (2, .p 0 34 []), (4, .p 1 34 []), (5, .p 2 34 []), (6, .i .i64 i)], (.n (some (.box 34 (.v 34 x) false)) (.n (some (.box 34 (.v 34 r0) false)) .e .e) (.n (some (.box 34 (.v 34 r) false)) .e .e)), [], 3, some []⟩ => some (.m x r0 r n i)
  | _ => none
theorem extRg_ok (τ : Vm.St) (x : PRg) (h : extRg τ = some x) : τ = tmRg x := by
  unfold extRg at h
  split at h <;> first | (cases h; rfl) | cases h
theorem stepRg (R : Type) (of : Nat → Option Ob) (x : PRg) (K : Vm.St → Option R) (kx : Exit → Vm.St → Option R) : execC T K11 (fun _ => none) false FU (ntOf Try.prog 23) of R (lp (codeOf Try.prog 23) 0) (tmRg x) (sortN 0 [1, 2, 4, 5, 6] 16 K kx) = BRg R x (fun x' => K (tmRg x')) (ekRg R kx) := by
  cases x
  · kernel_rfl
noncomputable def HRg : LS := loopH T K11 (fun _ => none) (ntOf Try.prog 23) (lp (codeOf Try.prog 23) 0) 0 [1, 2, 4, 5, 6] 16 extRg BRg ekRg
theorem HRg_ok : LoopTk Try.prog T (ntOf Try.prog 23) 0 (lp (codeOf Try.prog 23) 0) HRg :=
  loopH_ok follows T_ok hK11 hS11 loNat_none (loopsOK_none _) tmRg extRg_ok stepRg
noncomputable def LoRg : Nat → LC := atN 0 [(7, HRg)]
theorem LoRg_ok : LoopsC Try.prog T 23 LoRg := loopsC_at 0 (List.forall_mem_cons.2 ⟨HRg_ok.1, fun _ h => by cases h⟩) 1 (by kernel_rfl) ⟨trivial, loI (s0 := HRg) (by kernel_rfl) HRg_ok⟩
theorem run_Rg (x : V) (n : Int) : runFC Try.prog T K11 LoRg false FU 23 (List Rs) (mkAs T [34, 3] [x, .i n]) (fun _ => none) 0 (fun out => resC T true [.d 34] out) = Wd.rgG x n (fun r => some [.d 34 r]) := by kernel_rfl
noncomputable def tab12 : List (Nat × SymC) := (23, pureS T true [34, 3] (gF (fun _ => true) (fun xs => match xs with | [x, n] => [.d 34 (Wd.wV (Wd.rightW (Wd.wN x) n.int.toNat))] | _ => []))) :: tab11
theorem tab12_ok : TabOK Try.prog T tab12 := by
  refine pure_conG (sh := true) (rk := [.d 34]) (d := 4) (fu := FU) (Lo := LoRg) (ds := [Wd.DWide, .int .i64]) follows T_ok tab11_ok (by kernel_rfl) LoRg_ok 40 (by kernel_rfl) (fun xs hd hg => ?_)
  obtain ⟨a, b, rfl, ha, hb⟩ := hasL2 hd
  obtain ⟨a, h, rfl, e⟩ := Wd.wide_v ha
  obtain ⟨n, rfl, _, h2⟩ := hb
  simp only [hi] at h2
  refine (run_Rg _ _).trans ?_
  rw [Wd.rgG_law h h2]; dsimp only; rw [e]; rfl
noncomputable def K12 : KC := runAC Try.prog T tab12 false FU 4
theorem hK12 : K12.nat := runAC_nat tab12_ok 4
theorem hS12 : KOK Try.prog T K12.dir := runAC_ok follows T_ok tab12_ok 4
end Go.Proofs.Ytgnfgafiegimoaa

namespace Go.Proofs.Ytgnfgafiegimoaa
open Go.Vm
set_option maxRecDepth 100000
set_option linter.unusedVariables false
set_option linter.constructorNameAsVariable false
theorem run_ex (n : Int) : runFC Try.prog T K12 (fun _ _ => none) false FU 10 (List Rs) (mkAs T [22] [.i n]) (fun _ => none) 0 (fun out => resC T true [.d 34, .d 35] out) = Wd.exG n (fun x e => some [.d 34 x, .d 35 (.i e)]) := by kernel_rfl
noncomputable def tab13 : List (Nat × SymC) := (10, pureS T true [22] (gF (fun _ => true) (fun xs => match xs with | [x] => [.d 34 (Wd.wV (Wd.tgt x.int.toNat)), .d 35 (.i (Wd.eerr x.int.toNat))] | _ => []))) :: tab12
theorem tab13_ok : TabOK Try.prog T tab13 := by
  refine pure_conG (sh := true) (rk := [.d 34, .d 35]) (d := 4) (fu := FU) (Lo := (fun _ _ => none)) (ds := [.int .u32]) follows T_ok tab12_ok (by kernel_rfl) loopsC_none 40 (by kernel_rfl) (fun xs hd hg => ?_)
  obtain ⟨a, rfl, ha⟩ := hasL1 hd
  obtain ⟨n, rfl, h1, h2⟩ := ha
  simp only [lo, hi] at h1 h2
  obtain ⟨b, rfl⟩ := Int.eq_ofNat_of_zero_le h1
  exact (run_ex _).trans (Wd.exG_law (by omega) _)
noncomputable def K13 : KC := runAC Try.prog T tab13 false FU 4
theorem hK13 : K13.nat := runAC_nat tab13_ok 4
theorem hS13 : KOK Try.prog T K13.dir := runAC_ok follows T_ok tab13_ok 4
end Go.Proofs.Ytgnfgafiegimoaa

namespace Go.Proofs.Ytgnfgafiegimoaa
open Go.Vm
set_option maxRecDepth 100000
set_option linter.unusedVariables false
set_option linter.constructorNameAsVariable false
noncomputable def tmHi : PHi → Vm.St
  | .b s m l xs n i nl sh => ⟨[(0, .p 0 109 []), (6, .v 75 (.l l)), (7, .i .i64 n), (8, .i .i64 i)], (.n (some (.box 109 (.g 109 [.v 106 s, .o 1 1, .i .u64 m]) false)) (.n (some (.row 5 1 xs nl sh)) .e .e) .e), [0], 2, some []⟩
  | .c s m l xs n i off q sh => ⟨[(0, .p 0 109 []), (6, .v 75 (.l l)), (7, .i .i64 n), (8, .i .i64 i)], (.n (some (.box 109 (.g 109 [.v 106 s, .w 1 1 off q, .i .u64 m]) false)) (.n (some (.row 5 1 xs false sh)) .e .e) .e), [0], 2, some []⟩
noncomputable def ekHi (R : Type) (kx : Exit → Vm.St → Option R) : QHi → Option R
  | .b s m l xs n i nl sh => kx (.exit 2) ⟨[(0, .p 0 109 []), (6, .v 75 (.l l)), (7, .i .i64 n), (8, .i .i64 i)], (.n (some (.box 109 (.g 109 [.v 106 s, .o 1 1, .i .u64 m]) false)) (.n (some (.row 5 1 xs nl sh)) .e .e) .e), [0], 16, some []⟩
  | .c s m l xs n i off q sh => kx (.exit 2) ⟨[(0, .p 0 109 []), (6, .v 75 (.l l)), (7, .i .i64 n), (8, .i .i64 i)], (.n (some (.box 109 (.g 109 [.v 106 s, .w 1 1 off q, .i .u64 m]) false)) (.n (some (.row 5 1 xs false sh)) .e .e) .e), [0], 16, some []⟩
noncomputable def extHi : Vm.St → Option PHi
  | ⟨[(0, .p 0 109 []), (6, .v 75 (.l l)), (7, .i .i64 n), (8, .i .i64 i)], (.n (some (.box 109 (.g 109 [.v 106 s, .o 1 1, .i .u64 m]) false)) (.n (some (.row 5 1 xs nl sh)) .e .e) .e), [0], 2, some []⟩ => some (.b s m l xs n i nl sh)
  | ⟨[(0, .p 0 109 []), (6, .v 75 (.l l)), (7, .i .i64 n), (8, .i .i64 i)], (.n (some (.box 109 (.g 109 [.v 106 s, .w 1 1 off q, .i .u64 m]) false)) (.n (some (.row 5 1 xs false sh)) .e .e) .e), [0], 2, some []⟩ => some (.c s m l xs n i off q sh)
  | _ => none
theorem extHi_ok (τ : Vm.St) (x : PHi) (h : extHi τ = some x) : τ = tmHi x := by
  unfold extHi at h
  split at h <;> first | (cases h; rfl) | cases h
theorem stepHi (R : Type) (of : Nat → Option Ob) (x : PHi) (K : Vm.St → Option R) (kx : Exit → Vm.St → Option R) : execC T K13 (fun _ => none) false FU (ntOf Try.prog 54) of R (lp (codeOf Try.prog 54) 1) (tmHi x) (sortN 1 [0, 6, 7, 8] 16 K kx) = BHi R x (fun x' => K (tmHi x')) (ekHi R kx) := by
  cases x with
  | b _ _ _ _ _ _ nl _ => cases nl <;> kernel_rfl
  | c _ _ _ _ _ _ _ _ _ => kernel_rfl
noncomputable def HHi : LS := loopH T K13 (fun _ => none) (ntOf Try.prog 54) (lp (codeOf Try.prog 54) 1) 1 [0, 6, 7, 8] 16 extHi BHi ekHi
theorem HHi_ok : LoopTk Try.prog T (ntOf Try.prog 54) 1 (lp (codeOf Try.prog 54) 1) HHi :=
  loopH_ok follows T_ok hK13 hS13 loNat_none (loopsOK_none _) tmHi extHi_ok stepHi
noncomputable def tmHo : PHo → Vm.St
  | .a s m l n i => ⟨[(0, .p 0 109 []), (6, .v 75 (.l l)), (7, .i .i64 n), (8, .i .i64 i)], (.n (some (.box 109 (.v 109 (.l [s, .n, .i m])) false)) .e .e), [0], 1, some []⟩
  | .b s m l xs n i nl sh => ⟨[(0, .p 0 109 []), (6, .v 75 (.l l)), (7, .i .i64 n), (8, .i .i64 i)], (.n (some (.box 109 (.g 109 [.v 106 s, .o 1 1, .i .u64 m]) false)) (.n (some (.row 5 1 xs nl sh)) .e .e) .e), [0], 2, some []⟩
  | .c s m l xs n i off q sh => ⟨[(0, .p 0 109 []), (6, .v 75 (.l l)), (7, .i .i64 n), (8, .i .i64 i)], (.n (some (.box 109 (.g 109 [.v 106 s, .w 1 1 off q, .i .u64 m]) false)) (.n (some (.row 5 1 xs false sh)) .e .e) .e), [0], 2, some []⟩
noncomputable def ekHo (R : Type) (kx : Exit → Vm.St → Option R) : QHo → Option R
  | .a s m l n i => kx (.exit 0) ⟨[(0, .p 0 109 []), (6, .v 75 (.l l)), (7, .i .i64 n), (8, .i .i64 i)], (.n (some (.box 109 (.v 109 (.l [s, .n, .i m])) false)) .e .e), [0], 64, some []⟩
  | .b s m l xs n i nl sh => kx (.exit 0) ⟨[(0, .p 0 109 []), (6, .v 75 (.l l)), (7, .i .i64 n), (8, .i .i64 i)], (.n (some (.box 109 (.g 109 [.v 106 s, .o 1 1, .i .u64 m]) false)) (.n (some (.row 5 1 xs nl sh)) .e .e) .e), [0], 64, some []⟩
  | .c s m l xs n i off q sh => kx (.exit 0) ⟨[(0, .p 0 109 []), (6, .v 75 (.l l)), (7, .i .i64 n), (8, .i .i64 i)], (.n (some (.box 109 (.g 109 [.v 106 s, .w 1 1 off q, .i .u64 m]) false)) (.n (some (.row 5 1 xs false sh)) .e .e) .e), [0], 64, some []⟩
noncomputable def extHo_0 : Vm.St → Option PHo
  | ⟨[(0, .p 0 109 []), (6, .v 75 (.l l)), (7, .i .i64 n), (8, .i .i64 i)], (.n (some (.box 109 (.v 109 (.l [s, .n, .i m])) false)) .e .e), [0], 1, some []⟩ => some (.a s m l n i)
  | _ => none
theorem extHo_0_ok (τ : Vm.St) (x : PHo) (h : extHo_0 τ = some x) : τ = tmHo x := by
  unfold extHo_0 at h
  split at h <;> first | (cases h; rfl) | cases h
noncomputable def extHo_1 : Vm.St → Option PHo
  | ⟨[(0, .p 0 109 []), (6, .v 75 (.l l)), (7, .i .i64 n), (8, .i .i64 i)], (.n (some (.box 109 (.g 109 [.v 106 s, .o 1 1, .i .u64 m]) false)) (.n (some (.row 5 1 xs nl sh)) .e .e) .e), [0], 2, some []⟩ => some (.b s m l xs n i nl sh)
  | _ => none
theorem extHo_1_ok (τ : Vm.St) (x : PHo) (h : extHo_1 τ = some x) : τ = tmHo x := by
  unfold extHo_1 at h
  split at h <;> first | (cases h; rfl) | cases h
noncomputable def extHo_2 : Vm.St → Option PHo
  | ⟨[(0, .p 0 109 []), (6, .v 75 (.l l)), (7, .i .i64 n), (8, .i .i64 i)], (.n (some (.box 109 (.g 109 [.v 106 s, .w 1 1 off q, .i .u64 m]) false)) (.n (some (.row 5 1 xs false sh)) .e .e) .e), [0], 2, some []⟩ => some (.c s m l xs n i off q sh)
  | _ => none
theorem extHo_2_ok (τ : Vm.St) (x : PHo) (h : extHo_2 τ = some x) : τ = tmHo x := by
  unfold extHo_2 at h
  split at h <;> first | (cases h; rfl) | cases h
noncomputable def extHo (τ : Vm.St) : Option PHo := oc (extHo_0 τ) some (oc (extHo_1 τ) some (oc (extHo_2 τ) some (none)))
theorem extHo_ok (τ : Vm.St) (x : PHo) (h : extHo τ = some x) : τ = tmHo x := by
  unfold extHo at h
  cases h0 : extHo_0 τ with
  | some y => rw [h0] at h; cases h; exact extHo_0_ok τ _ h0
  | none =>
  rw [h0] at h; simp only [oc] at h
  cases h1 : extHo_1 τ with
  | some y => rw [h1] at h; cases h; exact extHo_1_ok τ _ h1
  | none =>
  rw [h1] at h; simp only [oc] at h
  cases h2 : extHo_2 τ with
  | some y => rw [h2] at h; cases h; exact extHo_2_ok τ _ h2
  | none =>
  rw [h2] at h; simp only [oc] at h
  cases h
theorem stepHo (R : Type) (of : Nat → Option Ob) (x : PHo) (K : Vm.St → Option R) (kx : Exit → Vm.St → Option R) : execC T K13 (loT [(5, HHi)]) false FU (ntOf Try.prog 54) of R (lp (codeOf Try.prog 54) 0) (tmHo x) (sortN 1 [0, 6, 7, 8] 64 K kx) = BHo R x (fun x' => K (tmHo x')) (ekHo R kx) := by
  cases x with
  | a _ _ _ _ _ => kernel_rfl
  | b _ _ _ _ _ _ _ _ => kernel_rfl
  | c _ _ _ _ _ _ _ _ _ => kernel_rfl
noncomputable def HHo : LS := loopH T K13 (loT [(5, HHi)]) (ntOf Try.prog 54) (lp (codeOf Try.prog 54) 0) 1 [0, 6, 7, 8] 64 extHo BHo ekHo
theorem HHo_ok : LoopTk Try.prog T (ntOf Try.prog 54) 1 (lp (codeOf Try.prog 54) 0) HHo :=
  loopH_ok follows T_ok hK13 hS13 (loT_nat (List.forall_mem_cons.2 ⟨HHi_ok.1, fun _ h => by cases h⟩)) (loopsOK_at 1 (by kernel_rfl) ⟨trivial, loI (s0 := HHi) (by kernel_rfl) ((show lp (lp (codeOf Try.prog 54) 0) 0 = lp (codeOf Try.prog 54) 1 from by kernel_rfl) ▸ HHi_ok)⟩) tmHo extHo_ok stepHo
noncomputable def LoHAd : Nat → LC := atN 1 [(1, HHo), (5, HHi)]
theorem LoHAd_ok : LoopsC Try.prog T 54 LoHAd := loopsC_at 1 (List.forall_mem_cons.2 ⟨HHo_ok.1, List.forall_mem_cons.2 ⟨HHi_ok.1, fun _ h => by cases h⟩⟩) 2 (by kernel_rfl) ⟨⟨trivial, loI (s0 := HHo) (by kernel_rfl) HHo_ok⟩, loI (s0 := HHi) (by kernel_rfl) HHi_ok⟩
noncomputable def tmHp : PHp → Vm.St
  | .b s m rs nl sh z xs => ⟨[(0, .p 0 109 []), (2, .p 2 24 []), (3, .o 3 1)], (.n (some (.box 109 (.g 109 [.v 106 s, .o 1 1, .i .u64 m]) false)) (.n (some (.row 5 1 rs nl sh)) (.n (some (.row 5 1 xs false false)) .e .e) .e) (.n (some (.box 24 (.v 24 z) false)) .e .e)), [1, 0], 4, some []⟩
  | .c s m rs off q sh z xs => ⟨[(0, .p 0 109 []), (2, .p 2 24 []), (3, .o 3 1)], (.n (some (.box 109 (.g 109 [.v 106 s, .w 1 1 off q, .i .u64 m]) false)) (.n (some (.row 5 1 rs false sh)) (.n (some (.row 5 1 xs false false)) .e .e) .e) (.n (some (.box 24 (.v 24 z) false)) .e .e)), [1, 0], 4, some []⟩
noncomputable def ekHp (R : Type) (kx : Exit → Vm.St → Option R) : QHp → Option R
  | .b s m rs nl sh z xs => kx (.exit 0) ⟨[(0, .p 0 109 []), (2, .p 2 24 []), (3, .o 3 1)], (.n (some (.box 109 (.g 109 [.v 106 s, .o 1 1, .i .u64 m]) false)) (.n (some (.row 5 1 rs nl sh)) (.n (some (.row 5 1 xs false false)) .e .e) .e) (.n (some (.box 24 (.v 24 z) false)) .e .e)), [1, 0], 16, some []⟩
  | .c s m rs off q sh z xs => kx (.exit 0) ⟨[(0, .p 0 109 []), (2, .p 2 24 []), (3, .o 3 1)], (.n (some (.box 109 (.g 109 [.v 106 s, .w 1 1 off q, .i .u64 m]) false)) (.n (some (.row 5 1 rs false sh)) (.n (some (.row 5 1 xs false false)) .e .e) .e) (.n (some (.box 24 (.v 24 z) false)) .e .e)), [1, 0], 16, some []⟩
noncomputable def extHp : Vm.St → Option PHp
  | ⟨[(0, .p 0 109 []), (2, .p 2 24 []), (3, .o 3 1)], (.n (some (.box 109 (.g 109 [.v 106 s, .o 1 1, .i .u64 m]) false)) (.n (some (.row 5 1 rs nl sh)) (.n (some (.row 5 1 xs false false)) .e .e) .e) (.n (some (.box 24 (.v 24 z) false)) .e .e)), [1, 0], 4, some []⟩ => some (.b s m rs nl sh z xs)
  | ⟨[(0, .p 0 109 []), (2, .p 2 24 []), (3, .o 3 1)], (.n (some (.box 109 (.g 109 [.v 106 s, .w 1 1 off q, .i .u64 m]) false)) (.n (some (.row 5 1 rs false sh)) (.n (some (.row 5 1 xs false false)) .e .e) .e) (.n (some (.box 24 (.v 24 z) false)) .e .e)), [1, 0], 4, some []⟩ => some (.c s m rs off q sh z xs)
  | _ => none
theorem extHp_ok (τ : Vm.St) (x : PHp) (h : extHp τ = some x) : τ = tmHp x := by
  unfold extHp at h
  split at h <;> first | (cases h; rfl) | cases h
theorem stepHp (R : Type) (of : Nat → Option Ob) (x : PHp) (K : Vm.St → Option R) (kx : Exit → Vm.St → Option R) : execC T K13 (fun _ => none) false FU (ntOf Try.prog 55) of R (lp (codeOf Try.prog 55) 0) (tmHp x) (sortN 2 [0, 2, 3] 16 K kx) = BHp R x (fun x' => K (tmHp x')) (ekHp R kx) := by
  cases x with
  | b _ _ _ _ _ _ _ => kernel_rfl
  | c _ _ _ _ _ _ _ _ => kernel_rfl
noncomputable def HHp : LS := loopH T K13 (fun _ => none) (ntOf Try.prog 55) (lp (codeOf Try.prog 55) 0) 2 [0, 2, 3] 16 extHp BHp ekHp
theorem HHp_ok : LoopTk Try.prog T (ntOf Try.prog 55) 2 (lp (codeOf Try.prog 55) 0) HHp :=
  loopH_ok follows T_ok hK13 hS13 loNat_none (loopsOK_none _) tmHp extHp_ok stepHp
noncomputable def tmHm : PHm → Vm.St
  | .b0 s m rs nl sh z st xs => ⟨[(2, .p 2 24 []), (3, .o 3 1), (6, .p 24 106 [])], (.n (some (.box 109 (.g 109 [.v 106 s, .o 1 1, .i .u64 m]) false)) (.n (some (.row 5 1 rs nl sh)) (.n (some (.row 5 1 xs false false)) .e .e) .e) (.n (some (.box 24 (.v 24 z) false)) (.n none (.n none .e (.n (some (.box 106 (.v 106 st) false)) .e .e)) .e) .e)), [1, 0], 25, some []⟩
  | .b1 s m rs nl sh z st xs o2 q2 => ⟨[(2, .p 2 24 []), (3, .w 3 1 o2 q2), (6, .p 24 106 [])], (.n (some (.box 109 (.g 109 [.v 106 s, .o 1 1, .i .u64 m]) false)) (.n (some (.row 5 1 rs nl sh)) (.n (some (.row 5 1 xs false false)) .e .e) .e) (.n (some (.box 24 (.v 24 z) false)) (.n none (.n none .e (.n (some (.box 106 (.v 106 st) false)) .e .e)) .e) .e)), [1, 0], 25, some []⟩
  | .c0 s m rs off q sh z st xs => ⟨[(2, .p 2 24 []), (3, .o 3 1), (6, .p 24 106 [])], (.n (some (.box 109 (.g 109 [.v 106 s, .w 1 1 off q, .i .u64 m]) false)) (.n (some (.row 5 1 rs false sh)) (.n (some (.row 5 1 xs false false)) .e .e) .e) (.n (some (.box 24 (.v 24 z) false)) (.n none (.n none .e (.n (some (.box 106 (.v 106 st) false)) .e .e)) .e) .e)), [1, 0], 25, some []⟩
  | .c1 s m rs off q sh z st xs o2 q2 => ⟨[(2, .p 2 24 []), (3, .w 3 1 o2 q2), (6, .p 24 106 [])], (.n (some (.box 109 (.g 109 [.v 106 s, .w 1 1 off q, .i .u64 m]) false)) (.n (some (.row 5 1 rs false sh)) (.n (some (.row 5 1 xs false false)) .e .e) .e) (.n (some (.box 24 (.v 24 z) false)) (.n none (.n none .e (.n (some (.box 106 (.v 106 st) false)) .e .e)) .e) .e)), [1, 0], 25, some []⟩
noncomputable def ekHm (R : Type) (kx : Exit → Vm.St → Option R) : QHm → Option R
  | .b0 s m rs nl sh z st xs => kx (.exit 4) ⟨[(2, .p 2 24 []), (3, .o 3 1), (6, .p 24 106 [])], (.n (some (.box 109 (.g 109 [.v 106 s, .o 1 1, .i .u64 m]) false)) (.n (some (.row 5 1 rs nl sh)) (.n (some (.row 5 1 xs false false)) .e .e) .e) (.n (some (.box 24 (.v 24 z) false)) (.n none (.n none .e (.n (some (.box 106 (.v 106 st) false)) .e .e)) .e) .e)), [1, 0], 32, some []⟩
  | .b1 s m rs nl sh z st xs o2 q2 => kx (.exit 4) ⟨[(2, .p 2 24 []), (3, .w 3 1 o2 q2), (6, .p 24 106 [])], (.n (some (.box 109 (.g 109 [.v 106 s, .o 1 1, .i .u64 m]) false)) (.n (some (.row 5 1 rs nl sh)) (.n (some (.row 5 1 xs false false)) .e .e) .e) (.n (some (.box 24 (.v 24 z) false)) (.n none (.n none .e (.n (some (.box 106 (.v 106 st) false)) .e .e)) .e) .e)), [1, 0], 32, some []⟩
  | .c0 s m rs off q sh z st xs => kx (.exit 4) ⟨[(2, .p 2 24 []), (3, .o 3 1), (6, .p 24 106 [])], (.n (some (.box 109 (.g 109 [.v 106 s, .w 1 1 off q, .i .u64 m]) false)) (.n (some (.row 5 1 rs false sh)) (.n (some (.row 5 1 xs false false)) .e .e) .e) (.n (some (.box 24 (.v 24 z) false)) (.n none (.n none .e (.n (some (.box 106 (.v 106 st) false)) .e .e)) .e) .e)), [1, 0], 32, some []⟩
  | .c1 s m rs off q sh z st xs o2 q2 => kx (.exit 4) ⟨[(2, .p 2 24 []), (3, .w 3 1 o2 q2), (6, .p 24 106 [])], (.n (some (.box 109 (.g 109 [.v 106 s, .w 1 1 off q, .i .u64 m]) false)) (.n (some (.row 5 1 rs false sh)) (.n (some (.row 5 1 xs false false)) .e .e) .e) (.n (some (.box 24 (.v 24 z) false)) (.n none (.n none .e (.n (some (.box 106 (.v 106 st) false)) .e .e)) .e) .e)), [1, 0], 32, some []⟩
noncomputable def extHm_0 : Vm.St → Option PHm
  | ⟨[(2, .p 2 24 []), (3, .o 3 1), (6, .p 24 106 [])], (.n (some (.box 109 (.g 109 [.v 106 s, .o 1 1, .i .u64 m]) false)) (.n (some (.row 5 1 rs nl sh)) (.n (some (.row 5 1 xs false false)) .e .e) .e) (.n (some (.box 24 (.v 24 z) false)) (.n none (.n none .e (.n (some (.box 106 (.v 106 st) false)) .e .e)) .e) .e)), [1, 0], 25, some []⟩ => some (.b0 s m rs nl sh z st xs)
  | _ => none
theorem extHm_0_ok (τ : Vm.St) (x : PHm) (h : extHm_0 τ = some x) : τ = tmHm x := by
  unfold extHm_0 at h
  split at h <;> first | (cases h; rfl) | cases h
noncomputable def extHm_1 : Vm.St → Option PHm
  | ⟨[(2, .p 2 24 []), (3, .w 3 1 o2 q2), (6, .p 24 106 [])], (.n (some (.box 109 (.g 109 [.v 106 s, .o 1 1, .i .u64 m]) false)) (.n (some (.row 5 1 rs nl sh)) (.n (some (.row 5 1 xs false false)) .e .e) .e) (.n (some (.box 24 (.v 24 z) false)) (.n none (.n none .e (.n (some (.box 106 (.v 106 st) false)) .e .e)) .e) .e)), [1, 0], 25, some []⟩ => some (.b1 s m rs nl sh z st xs o2 q2)
  | _ => none
theorem extHm_1_ok (τ : Vm.St) (x : PHm) (h : extHm_1 τ = some x) : τ = tmHm x := by
  unfold extHm_1 at h
  split at h <;> first | (cases h; rfl) | cases h
noncomputable def extHm_2 : Vm.St → Option PHm
  | ⟨[(2, .p 2 24 []), (3, .o 3 1), (6, .p 24 106 [])], (.n (some (.box 109 (.g 109 [.v 106 s, .w 1 1 off q, .i .u64 m]) false)) (.n (some (.row 5 1 rs false sh)) (.n (some (.row 5 1 xs false false)) .e .e) .e) (.n (some (.box 24 (.v 24 z) false)) (.n none (.n none .e (.n (some (.box 106 (.v 106 st) false)) .e .e)) .e) .e)), [1, 0], 25, some []⟩ => some (.c0 s m rs off q sh z st xs)
  | _ => none
theorem extHm_2_ok (τ : Vm.St) (x : PHm) (h : extHm_2 τ = some x) : τ = tmHm x := by
  unfold extHm_2 at h
  split at h <;> first | (cases h; rfl) | cases h
noncomputable def extHm_3 : Vm.St → Option PHm
  | ⟨[(2, .p 2 24 []), (3, .w 3 1 o2 q2), (6, .p 24 106 [])], (.n (some (.box 109 (.g 109 [.v 106 s, .w 1 1 off q, .i .u64 m]) false)) (.n (some (.row 5 1 rs false sh)) (.n (some (.row 5 1 xs false false)) .e .e) .e) (.n (some (.box 24 (.v 24 z) false)) (.n none (.n none .e (.n (some (.box 106 (.v 106 st) false)) .e .e)) .e) .e)), [1, 0], 25, some []⟩ => some (.c1 s m rs off q sh z st xs o2 q2)
  | _ => none
theorem extHm_3_ok (τ : Vm.St) (x : PHm) (h : extHm_3 τ = some x) : τ = tmHm x := by
  unfold extHm_3 at h
  split at h <;> first | (cases h; rfl) | cases h
noncomputable def extHm (τ : Vm.St) : Option PHm := oc (extHm_0 τ) some (oc (extHm_1 τ) some (oc (extHm_2 τ) some (oc (extHm_3 τ) some (none))))
theorem extHm_ok (τ : Vm.St) (x : PHm) (h : extHm τ = some x) : τ = tmHm x := by
  unfold extHm at h
  cases h0 : extHm_0 τ with
  | some y => rw [h0] at h; cases h; exact extHm_0_ok τ _ h0
  | none =>
  rw [h0] at h; simp only [oc] at h
  cases h1 : extHm_1 τ with
  | some y => rw [h1] at h; cases h; exact extHm_1_ok τ _ h1
  | none =>
  rw [h1] at h; simp only [oc] at h
  cases h2 : extHm_2 τ with
  | some y => rw [h2] at h; cases h; exact extHm_2_ok τ _ h2
  | none =>
  rw [h2] at h; simp only [oc] at h
  cases h3 : extHm_3 τ with
  | some y => rw [h3] at h; cases h; exact extHm_3_ok τ _ h3
  | none =>
  rw [h3] at h; simp only [oc] at h
  cases h
theorem stepHm (R : Type) (of : Nat → Option Ob) (x : PHm) (K : Vm.St → Option R) (kx : Exit → Vm.St → Option R) : execC T K13 (fun _ => none) false FU (ntOf Try.prog 55) of R (lp (codeOf Try.prog 55) 2) (tmHm x) (sortN 2 [2, 3, 6] 32 K kx) = BHm R x (fun x' => K (tmHm x')) (ekHm R kx) := by
  cases x with
  | b0 _ _ _ _ _ _ _ _ => kernel_rfl
  | b1 _ _ _ _ _ _ _ _ _ _ => kernel_rfl
  | c0 _ _ _ _ _ _ _ _ _ => kernel_rfl
  | c1 _ _ _ _ _ _ _ _ _ _ _ => kernel_rfl
noncomputable def HHm : LS := loopH T K13 (fun _ => none) (ntOf Try.prog 55) (lp (codeOf Try.prog 55) 2) 2 [2, 3, 6] 32 extHm BHm ekHm
theorem HHm_ok : LoopTk Try.prog T (ntOf Try.prog 55) 2 (lp (codeOf Try.prog 55) 2) HHm :=
  loopH_ok follows T_ok hK13 hS13 loNat_none (loopsOK_none _) tmHm extHm_ok stepHm
noncomputable def LoHSm : Nat → LC := atN 2 [(3, HHp), (12, HHm)]
theorem LoHSm_ok : LoopsC Try.prog T 55 LoHSm := loopsC_at 2 (List.forall_mem_cons.2 ⟨HHp_ok.1, List.forall_mem_cons.2 ⟨HHm_ok.1, fun _ h => by cases h⟩⟩) 4 (by kernel_rfl) ⟨⟨⟨⟨trivial, loI (s0 := HHp) (by kernel_rfl) HHp_ok⟩, loN (by kernel_rfl)⟩, loI (s0 := HHm) (by kernel_rfl) HHm_ok⟩, loN (by kernel_rfl)⟩
noncomputable def tab14 : List (Nat × SymC) := (54, trS (runPC Try.prog T K13 LoHAd false FU 54)) :: tab13
theorem tab14_ok : TabOK Try.prog T tab14 := TabOK.runP follows T_ok tab13_ok LoHAd_ok
noncomputable def tab15 : List (Nat × SymC) := (55, trS (runPC Try.prog T K13 LoHSm false FU 55)) :: tab14
theorem tab15_ok : TabOK Try.prog T tab15 :=
  tab14_ok.cons (trS_nat (runPC_nat hK13 LoHSm_ok.nat)) (trS_ok (runPC_nat hK13 LoHSm_ok.nat) (runPC_ok follows T_ok hK13 hS13 LoHSm_ok.nat LoHSm_ok.ok).at_)
noncomputable def K15 : KC := runAC Try.prog T tab15 false FU 4
theorem hK15 : K15.nat := runAC_nat tab15_ok 4
theorem hS15 : KOK Try.prog T K15.dir := runAC_ok follows T_ok tab15_ok 4
theorem run_ds (l : List V) : runFC Try.prog T K15 (fun _ _ => none) false FU 44 (List Rs) (mkAs T [75] [.l l]) (fun _ => none) 0 (fun out => resC T true [.d 24] out) = dsG l (fun x => some [.d 24 x]) := by kernel_rfl
noncomputable def tab16 : List (Nat × SymC) := (44, pureS T true [75] (gF dsg (dsr 24))) :: tab15
theorem tab16_ok : TabOK Try.prog T tab16 := by
  refine pure_conG (sh := true) (rk := [.d 24]) (d := 4) (fu := FU) (Lo := (fun _ _ => none)) (ds := [.slice (.slice (.int .u8))]) follows T_ok tab15_ok (by kernel_rfl) loopsC_none 40 (by kernel_rfl) (fun xs hd hg => ?_)
  obtain ⟨a, rfl, ha⟩ := hasL1 hd
  obtain ⟨l, rfl⟩ := dsg_l hg
  exact (run_ds l).trans (ds_run ha hg _)
noncomputable def K16 : KC := runAC Try.prog T tab16 false FU 4
theorem hK16 : K16.nat := runAC_nat tab16_ok 4
theorem hS16 : KOK Try.prog T K16.dir := runAC_ok follows T_ok tab16_ok 4
theorem run_dt2 (l : List V) : runFC Try.prog T K16 (fun _ _ => none) false FU 30 (List Rs) (mkAs T [75] [.l l]) (fun _ => none) 0 (fun out => resC T true [.d 24] out) = bif dsg [.l l] then some [.d 24 (shaB (shaN (catB l)))] else none := by kernel_rfl
end Go.Proofs.Ytgnfgafiegimoaa

namespace Go.Proofs.Ytgnfgafiegimoaa
open Go.Vm
set_option maxRecDepth 100000
set_option linter.unusedVariables false
set_option linter.constructorNameAsVariable false
noncomputable def tab17 : List (Nat × SymC) := (30, pureS T true [75] (gF dsg (dtr 24))) :: tab16
theorem tab17_ok : TabOK Try.prog T tab17 := by
  refine pure_conG (sh := true) (rk := [.d 24]) (d := 4) (fu := FU) (Lo := (fun _ _ => none)) (ds := [.slice (.slice (.int .u8))]) follows T_ok tab16_ok (by kernel_rfl) loopsC_none 40 (by kernel_rfl) (fun xs hd hg => ?_)
  obtain ⟨a, rfl, ha⟩ := hasL1 hd
  obtain ⟨l, rfl⟩ := dsg_l hg
  refine (run_dt2 l).trans ?_
  rw [hg]; rfl
noncomputable def K17 : KC := runAC Try.prog T tab17 false FU 4
theorem hK17 : K17.nat := runAC_nat tab17_ok 4
theorem hS17 : KOK Try.prog T K17.dir := runAC_ok follows T_ok tab17_ok 4
theorem run_dw (l : List V) : runFC Try.prog T K17 (fun _ _ => none) false FU 35 (List Rs) (mkAs T [43] [.l l]) (fun _ => none) 0 (fun out => resC T true [.d 24] out) = bif Nat.ble l.length 1000000000 then some [.d 24 (shaV (shaV (.l l)))] else none := by kernel_rfl
noncomputable def tab18 : List (Nat × SymC) := (35, pureS T true [43] (gF dwg (dwr 24))) :: tab17
theorem tab18_ok : TabOK Try.prog T tab18 := by
  refine pure_conG (sh := true) (rk := [.d 24]) (d := 4) (fu := FU) (Lo := (fun _ _ => none)) (ds := [.slice (.int .u8)]) follows T_ok tab17_ok (by kernel_rfl) loopsC_none 40 (by kernel_rfl) (fun xs hd hg => ?_)
  obtain ⟨a, rfl, ha⟩ := hasL1 hd
  obtain ⟨l, rfl, hl⟩ := dwg_l hg
  refine (run_dw l).trans ?_
  rw [hl]
  show some [Rs.d _ (shaV (shaV (.l l)))] = some [Rs.d _ (shaB (shaN (bytesN (.l l))))]
  rw [show shaV (shaV (.l l)) = shaB (shaN (bytesN (.l l))) by unfold shaV shaB; rw [bytesN_eq (x := .l _) rfl]]
noncomputable def K18 : KC := runAC Try.prog T tab18 false FU 4
theorem hK18 : K18.nat := runAC_nat tab18_ok 4
theorem hS18 : KOK Try.prog T K18.dir := runAC_ok follows T_ok tab18_ok 4
theorem run_wf4 (bs : List V) (n : Int) : runFC Try.prog T K18 (fun _ _ => none) false FU 45 (List Rs) (mkAs T [43, 32, 3] [.l bs, .i n, .i 4]) (fun _ => none) 0 (fun out => resC T true [.r 5] out) = (lim (0 + bs.length) <| pFix 4 n bs (fun xs => some [.r 5 xs false])) := by kernel_rfl
theorem run_wf4N (n : Int) : runFC Try.prog T K18 (fun _ _ => none) false FU 45 (List Rs) (mkAs T [43, 32, 3] [.n, .i n, .i 4]) (fun _ => none) 0 (fun out => resC T true [.r 5] out) = some [.r 5 (leV 4 n) false] := by kernel_rfl
noncomputable def tab19 : List (Nat × SymC) := (45, pureS T true [43, 32, 3] (gF wFx4 (wFixr 5))) :: tab18
theorem tab19_ok : TabOK Try.prog T tab19 := by
  refine pure_conG (sh := true) (rk := [.r 5]) (d := 4) (fu := FU) (Lo := (fun _ _ => none)) (ds := [.slice (.int .u8), .int .u64, .int .i64]) follows T_ok tab18_ok (by kernel_rfl) loopsC_none 40 (by kernel_rfl) (fun xs hd hg => ?_)
  obtain ⟨a, b, c, rfl, ha, hb, hc⟩ := hasL3 hd
  obtain ⟨n, rfl, _⟩ := hb
  obtain ⟨s, rfl, _⟩ := hc
  obtain ⟨rfl, hg⟩ := wFx4_at hg
  rcases bytes_v ha with rfl | ⟨ys, rfl⟩
  · rw [wFixr_4]; exact run_wf4N n
  · rw [wFixr_4]
    have hl : ys.length ≤ 268435456 := shb_le hg
    refine (run_wf4 ys n).trans ?_
    rw [lim_in (by omega), pFix_law _ _ _ _ (by show ys.length + 4 ≤ 1073741824; omega)]; rfl
noncomputable def K19 : KC := runAC Try.prog T tab19 false FU 4
theorem hK19 : K19.nat := runAC_nat tab19_ok 4
theorem hS19 : KOK Try.prog T K19.dir := runAC_ok follows T_ok tab19_ok 4
theorem run_df4 (n : Int) : runFC Try.prog T K19 (fun _ _ => none) false FU 49 (List Rs) (mkAs T [32, 3] [.i n, .i 4]) (fun _ => none) 0 (fun out => resC T true [.r 5] out) = some [.r 5 (leD 4 n) false] := by kernel_rfl
noncomputable def tab20 : List (Nat × SymC) := (49, pureS T true [32, 3] (gF dFx4 (dFixr 5))) :: tab19
theorem tab20_ok : TabOK Try.prog T tab20 := by
  refine pure_conG (sh := true) (rk := [.r 5]) (d := 4) (fu := FU) (Lo := (fun _ _ => none)) (ds := [.int .u64, .int .i64]) follows T_ok tab19_ok (by kernel_rfl) loopsC_none 40 (by kernel_rfl) (fun xs hd hg => ?_)
  obtain ⟨a, b, rfl, ha, hb⟩ := hasL2 hd
  obtain ⟨n, rfl, h1, h2⟩ := ha
  obtain ⟨s, rfl, _⟩ := hb
  simp only [lo, hi] at h1 h2
  have hs := dFx4_at hg
  subst hs
  rw [dFixr_4]
  refine (run_df4 n).trans ?_
  rw [leD_leV 4 h1 (by omega)]
noncomputable def K20 : KC := runAC Try.prog T tab20 false FU 4
theorem hK20 : K20.nat := runAC_nat tab20_ok 4
theorem hS20 : KOK Try.prog T K20.dir := runAC_ok follows T_ok tab20_ok 4
theorem run_hb (v t b n : Int) (p q : Nat → V) : runFC Try.prog T K20 (fun _ _ => none) false FU 31 (List Rs) (mkAs T [26] [.l [.i v, .l (l32 p), .l (l32 q), .i t, .i b, .i n]]) (fun _ => none) 0 (fun out => resC T true [.r 5] out) = some [.r 5 (hdB v t b n (l32 p) (l32 q)) false] := by kernel_rfl
noncomputable def tab21 : List (Nat × SymC) := (31, pureS T true [26] (gF (fun _ => true) (hbr 5))) :: tab20
theorem tab21_ok : TabOK Try.prog T tab21 := by
  refine pure_conG (sh := true) (rk := [.r 5]) (d := 4) (fu := FU) (Lo := (fun _ _ => none)) (ds := [DHead]) follows T_ok tab20_ok (by kernel_rfl) loopsC_none 40 (by kernel_rfl) (fun xs hd hg => ?_)
  obtain ⟨a, rfl, ha⟩ := hasL1 hd
  obtain ⟨v, t, b, n, ps, rs, rfl, p1, r1, _⟩ := head_v ha
  have e1 := l32_of (l := ps.map nv) (by rw [List.length_map]; exact p1)
  have e2 := l32_of (l := rs.map nv) (by rw [List.length_map]; exact r1)
  rw [e1, e2]
  exact run_hb _ _ _ _ _ _
noncomputable def K21 : KC := runAC Try.prog T tab21 false FU 4
theorem hK21 : K21.nat := runAC_nat tab21_ok 4
theorem hS21 : KOK Try.prog T K21.dir := runAC_ok follows T_ok tab21_ok 4
theorem run_dhb (v t b n : Int) (p q : Nat → V) : runFC Try.prog T K21 (fun _ _ => none) false FU 36 (List Rs) (mkAs T [26] [.l [.i v, .l (l32 p), .l (l32 q), .i t, .i b, .i n]]) (fun _ => none) 0 (fun out => resC T true [.r 5] out) = some [.r 5 (hdB v t b n (l32 p) (l32 q)) false] := by kernel_rfl
noncomputable def tab22 : List (Nat × SymC) := (36, pureS T true [26] (gF (fun _ => true) (hbr 5))) :: tab21
theorem tab22_ok : TabOK Try.prog T tab22 := by
  refine pure_conG (sh := true) (rk := [.r 5]) (d := 4) (fu := FU) (Lo := (fun _ _ => none)) (ds := [DHead]) follows T_ok tab21_ok (by kernel_rfl) loopsC_none 40 (by kernel_rfl) (fun xs hd hg => ?_)
  obtain ⟨a, rfl, ha⟩ := hasL1 hd
  obtain ⟨v, t, b, n, ps, rs, rfl, p1, r1, _⟩ := head_v ha
  have e1 := l32_of (l := ps.map nv) (by rw [List.length_map]; exact p1)
  have e2 := l32_of (l := rs.map nv) (by rw [List.length_map]; exact r1)
  rw [e1, e2]
  exact run_dhb _ _ _ _ _ _
noncomputable def K22 : KC := runAC Try.prog T tab22 false FU 4
theorem hK22 : K22.nat := runAC_nat tab22_ok 4
theorem hS22 : KOK Try.prog T K22.dir := runAC_ok follows T_ok tab22_ok 4
theorem run_id (v t b n : Int) (p q : Nat → V) : runFC Try.prog T K22 (fun _ _ => none) false FU 14 (List Rs) (mkAs T [26] [.l [.i v, .l (l32 p), .l (l32 q), .i t, .i b, .i n]]) (fun _ => none) 0 (fun out => resC T true [.d 24] out) = some (idr 24 [.l [.i v, .l (l32 p), .l (l32 q), .i t, .i b, .i n]]) := by kernel_rfl
noncomputable def tab23 : List (Nat × SymC) := (14, pureS T true [26] (gF (fun _ => true) (idr 24))) :: tab22
theorem tab23_ok : TabOK Try.prog T tab23 := by
  refine pure_conG (sh := true) (rk := [.d 24]) (d := 4) (fu := FU) (Lo := (fun _ _ => none)) (ds := [DHead]) follows T_ok tab22_ok (by kernel_rfl) loopsC_none 40 (by kernel_rfl) (fun xs hd hg => ?_)
  obtain ⟨a, rfl, ha⟩ := hasL1 hd
  obtain ⟨v, t, b, n, ps, rs, rfl, p1, r1, _⟩ := head_v ha
  have e1 := l32_of (l := ps.map nv) (by rw [List.length_map]; exact p1)
  have e2 := l32_of (l := rs.map nv) (by rw [List.length_map]; exact r1)
  rw [e1, e2]
  exact run_id _ _ _ _ _ _
noncomputable def K23 : KC := runAC Try.prog T tab23 false FU 4
theorem hK23 : K23.nat := runAC_nat tab23_ok 4
theorem hS23 : KOK Try.prog T K23.dir := runAC_ok follows T_ok tab23_ok 4
theorem run_did (v t b n : Int) (p q : Nat → V) : runFC Try.prog T K23 (fun _ _ => none) false FU 19 (List Rs) (mkAs T [26] [.l [.i v, .l (l32 p), .l (l32 q), .i t, .i b, .i n]]) (fun _ => none) 0 (fun out => resC T true [.d 24] out) = some (idr 24 [.l [.i v, .l (l32 p), .l (l32 q), .i t, .i b, .i n]]) := by kernel_rfl
noncomputable def tab24 : List (Nat × SymC) := (19, pureS T true [26] (gF (fun _ => true) (idr 24))) :: tab23
theorem tab24_ok : TabOK Try.prog T tab24 := by
  refine pure_conG (sh := true) (rk := [.d 24]) (d := 4) (fu := FU) (Lo := (fun _ _ => none)) (ds := [DHead]) follows T_ok tab23_ok (by kernel_rfl) loopsC_none 40 (by kernel_rfl) (fun xs hd hg => ?_)
  obtain ⟨a, rfl, ha⟩ := hasL1 hd
  obtain ⟨v, t, b, n, ps, rs, rfl, p1, r1, _⟩ := head_v ha
  have e1 := l32_of (l := ps.map nv) (by rw [List.length_map]; exact p1)
  have e2 := l32_of (l := rs.map nv) (by rw [List.length_map]; exact r1)
  rw [e1, e2]
  exact run_did _ _ _ _ _ _
noncomputable def K24 : KC := runAC Try.prog T tab24 false FU 4
theorem hK24 : K24.nat := runAC_nat tab24_ok 4
theorem hS24 : KOK Try.prog T K24.dir := runAC_ok follows T_ok tab24_ok 4
end Go.Proofs.Ytgnfgafiegimoaa

namespace Go.Proofs.Ytgnfgafiegimoaa
open Go.Vm
set_option maxRecDepth 100000
set_option linter.unusedVariables false
set_option linter.constructorNameAsVariable false
theorem run_fr (a : Nat → Int) : runFC Try.prog T K24 (fun _ _ => none) false FU 17 (List Rs) (mkAs T [24] [.l (l32 fun i => .i (a i))]) (fun _ => none) 0 (fun out => resC T true [.d 34] out) = some [.d 34 (Wd.frC a)] := by kernel_rfl
noncomputable def tab25 : List (Nat × SymC) := (17, pureS T true [24] (gF (fun _ => true) (fun xs => match xs with | [x] => [.d 34 (Wd.wV (Wd.leN (bytesN x).reverse))] | _ => []))) :: tab24
theorem tab25_ok : TabOK Try.prog T tab25 := by
  refine pure_conG (sh := true) (rk := [.d 34]) (d := 4) (fu := FU) (Lo := (fun _ _ => none)) (ds := [DHash]) follows T_ok tab24_ok (by kernel_rfl) loopsC_none 40 (by kernel_rfl) (fun xs hd hg => ?_)
  obtain ⟨a, rfl, ha⟩ := hasL1 hd
  obtain ⟨ns, rfl, hl, hn⟩ := hash_v ha
  rw [l32_nat hl]
  refine (run_fr _).trans ?_
  rw [Wd.frC_law (n := fun i => ns.getD i 0) (getD_256 hn)]
noncomputable def K25 : KC := runAC Try.prog T tab25 false FU 4
theorem hK25 : K25.nat := runAC_nat tab25_ok 4
theorem hS25 : KOK Try.prog T K25.dir := runAC_ok follows T_ok tab25_ok 4
theorem run_mt (v t b n : Int) (p q : Nat → V) : runFC Try.prog T K25 (fun _ _ => none) false FU 6 (List Rs) (mkAs T [26] [.l [.i v, .l (l32 p), .l (l32 q), .i t, .i b, .i n]]) (fun _ => none) 0 (fun out => resC T true [.d 4] out) = Wd.mtI (.l [.i v, .l (l32 p), .l (l32 q), .i t, .i b, .i n]) (.l ((Wd.hdN (.l [.i v, .l (l32 p), .l (l32 q), .i t, .i b, .i n])).map nv).reverse) (fun a => some [.d 4 (.b a)]) := by kernel_rfl
noncomputable def tab26 : List (Nat × SymC) := (6, pureS T true [26] (gF (fun _ => true) (Wd.mtr 4))) :: tab25
theorem tab26_ok : TabOK Try.prog T tab26 := by
  refine pure_conG (sh := true) (rk := [.d 4]) (d := 4) (fu := FU) (Lo := (fun _ _ => none)) (ds := [DHead]) follows T_ok tab25_ok (by kernel_rfl) loopsC_none 40 (by kernel_rfl) (fun xs hd hg => ?_)
  obtain ⟨a, rfl, ha⟩ := hasL1 hd
  obtain ⟨v, t, b, n, ps, rs, rfl, p1, r1, _⟩ := head_v ha
  have e1 := l32_of (l := ps.map nv) (by rw [List.length_map]; exact p1)
  have e2 := l32_of (l := rs.map nv) (by rw [List.length_map]; exact r1)
  rw [e1, e2]
  exact (run_mt _ _ _ _ _ _).trans (Wd.mt_law _ _)
noncomputable def K26 : KC := runAC Try.prog T tab26 false FU 4
theorem hK26 : K26.nat := runAC_nat tab26_ok 4
theorem hS26 : KOK Try.prog T K26.dir := runAC_ok follows T_ok tab26_ok 4
end Go.Proofs.Ytgnfgafiegimoaa

namespace Go.Proofs.Ytgnfgafiegimoaa
open Go.Vm
set_option maxRecDepth 100000
set_option linter.unusedVariables false
set_option linter.constructorNameAsVariable false
open Go.Vm.Wd (PMu QMu BMu)
noncomputable def tmMu : PMu → Vm.St
  | .m y zs xs n i => ⟨[(1, .v 47 (.l [.i y])), (5, .o 1 1), (17, .v 47 (.l xs)), (18, .i .i64 n), (19, .i .i64 i)], (.n none (.n (some (.row 32 1 zs false false)) .e .e) .e), [], 2, some []⟩
noncomputable def ekMu (R : Type) (kx : Exit → Vm.St → Option R) : QMu → Option R
  | .o y zs xs n i => kx (.exit 0) ⟨[(1, .v 47 (.l [.i y])), (5, .o 1 1), (17, .v 47 (.l xs)), (18, .i .i64 n), (19, .i .i64 i)], (.n none (.n (some (.row 32 1 zs false false)) .e .e) .e), [], 16, some []⟩
noncomputable def extMu : Vm.St → Option PMu
  | ⟨[(1, .v 47 (.l [.i y])), (5, .o 1 1), (17, .v 47 (.l xs)), (18, .i .i64 n), (19, .i .i64 i)], (.n none (.n (some (.row 32 1 zs false false)) .e .e) .e), [], 2, some []⟩ => some (.m y zs xs n i)
  | _ => none
theorem extMu_ok (τ : Vm.St) (x : PMu) (h : extMu τ = some x) : τ = tmMu x := by
  unfold extMu at h
  split at h <;> first | (cases h; rfl) | cases h
theorem stepMu (R : Type) (of : Nat → Option Ob) (x : PMu) (K : Vm.St → Option R) (kx : Exit → Vm.St → Option R) : execC T K26 (fun _ => none) false FU (ntOf Try.prog 47) of R (lp (codeOf Try.prog 47) 0) (tmMu x) (sortN 0 [1, 5, 17, 18, 19] 16 K kx) = BMu R x (fun x' => K (tmMu x')) (ekMu R kx) := by
  cases x with
  | m _ _ _ _ _ => kernel_rfl
noncomputable def HMu : LS := loopH T K26 (fun _ => none) (ntOf Try.prog 47) (lp (codeOf Try.prog 47) 0) 0 [1, 5, 17, 18, 19] 16 extMu BMu ekMu
theorem HMu_ok : LoopTk Try.prog T (ntOf Try.prog 47) 0 (lp (codeOf Try.prog 47) 0) HMu :=
  loopH_ok follows T_ok hK26 hS26 loNat_none (loopsOK_none _) tmMu extMu_ok stepMu
noncomputable def LoMu : Nat → LC := atN 0 [(3, HMu)]
theorem LoMu_ok : LoopsC Try.prog T 47 LoMu := loopsC_at 0 (List.forall_mem_cons.2 ⟨HMu_ok.1, fun _ h => by cases h⟩) 2 (by kernel_rfl) ⟨⟨trivial, loI (s0 := HMu) (by kernel_rfl) HMu_ok⟩, loN (by kernel_rfl)⟩
theorem run_mu (xs : List V) (y : Int) : runFC Try.prog T K26 LoMu false FU 47 (List Rs) (mkAs T [47, 47] [.l xs, .l [.i y]]) (fun _ => none) 0 (fun out => resC T true [.d 47] out) = Wd.muG xs y (fun x => some [.d 47 x]) := by kernel_rfl
noncomputable def tab27 : List (Nat × SymC) := (47, pureS T true [47, 47] (gF Wd.mug (Wd.mur 47))) :: tab26
theorem tab27_ok : TabOK Try.prog T tab27 := by
  refine pure_conG (sh := true) (rk := [.d 47]) (d := 4) (fu := FU) (Lo := LoMu) (ds := [.slice (.int .u64), .slice (.int .u64)]) follows T_ok tab26_ok (by kernel_rfl) LoMu_ok 40 (by kernel_rfl) (fun xs hd hg => ?_)
  obtain ⟨a, b, rfl, ha, hb⟩ := hasL2 hd
  obtain ⟨l, y, rfl, rfl, hy, hg⟩ := Wd.mug_at hg
  subst hy
  rcases Wd.digs ha with q | ⟨ns, q, hn⟩
  · cases q
  · obtain rfl := V.l.inj q
    refine (run_mu _ _).trans ?_
    rw [Wd.mu_law hg]
    show _ = some [Rs.d _ (.l ((Wd.mulN 256 0 (bytesN (.l (ns.map nv)))).map nv))]
    rw [bytesN_eq (x := .l (ns.map nv)) rfl]
noncomputable def K27 : KC := runAC Try.prog T tab27 false FU 4
theorem hK27 : K27.nat := runAC_nat tab27_ok 4
theorem hS27 : KOK Try.prog T K27.dir := runAC_ok follows T_ok tab27_ok 4
open Go.Vm.Wd (PTi QTi BTi)
noncomputable def tmTi : PTi → Vm.St
  | .m x n i => ⟨[(0, .v 47 x), (1, .i .i64 n), (5, .i .i64 i)], .e, [], 0, some []⟩
noncomputable def ekTi (R : Type) (kx : Exit → Vm.St → Option R) : QTi → Option R
  | .o x n i => kx (.exit 0) ⟨[(0, .v 47 x), (1, .i .i64 n), (5, .i .i64 i)], .e, [], 16, some []⟩
noncomputable def extTi : Vm.St → Option PTi
  | ⟨[(0, .v 47 x), (1, .i .i64 n), (5, .i .i64 i)], .e, [], 0, some []⟩ => some (.m x n i)
  | _ => none
theorem extTi_ok (τ : Vm.St) (x : PTi) (h : extTi τ = some x) : τ = tmTi x := by
  unfold extTi at h
  split at h <;> first | (cases h; rfl) | cases h
theorem stepTi (R : Type) (of : Nat → Option Ob) (x : PTi) (K : Vm.St → Option R) (kx : Exit → Vm.St → Option R) : execC T K27 (fun _ => none) false FU (ntOf Try.prog 32) of R (lp (codeOf Try.prog 32) 0) (tmTi x) (sortN 0 [0, 1, 5] 16 K kx) = BTi R x (fun x' => K (tmTi x')) (ekTi R kx) := by
  cases x with
  | m _ _ _ => kernel_rfl
noncomputable def HTi : LS := loopH T K27 (fun _ => none) (ntOf Try.prog 32) (lp (codeOf Try.prog 32) 0) 0 [0, 1, 5] 16 extTi BTi ekTi
theorem HTi_ok : LoopTk Try.prog T (ntOf Try.prog 32) 0 (lp (codeOf Try.prog 32) 0) HTi :=
  loopH_ok follows T_ok hK27 hS27 loNat_none (loopsOK_none _) tmTi extTi_ok stepTi
noncomputable def LoTi : Nat → LC := atN 0 [(2, HTi)]
theorem LoTi_ok : LoopsC Try.prog T 32 LoTi := loopsC_at 0 (List.forall_mem_cons.2 ⟨HTi_ok.1, fun _ h => by cases h⟩) 1 (by kernel_rfl) ⟨trivial, loI (s0 := HTi) (by kernel_rfl) HTi_ok⟩
theorem run_ti (x : V) (n : Int) : runFC Try.prog T K27 LoTi false FU 32 (List Rs) (mkAs T [47, 3] [x, .i n]) (fun _ => none) 0 (fun out => resC T true [.d 47] out) = Wd.tiG x n (fun x => some [.d 47 x]) := by kernel_rfl
noncomputable def tab28 : List (Nat × SymC) := (32, pureS T true [47, 3] (gF Wd.tig (Wd.tir 47))) :: tab27
theorem tab28_ok : TabOK Try.prog T tab28 := by
  refine pure_conG (sh := true) (rk := [.d 47]) (d := 4) (fu := FU) (Lo := LoTi) (ds := [.slice (.int .u64), .int .i64]) follows T_ok tab27_ok (by kernel_rfl) LoTi_ok 40 (by kernel_rfl) (fun xs hd hg => ?_)
  obtain ⟨a, b, rfl, ha, hb⟩ := hasL2 hd
  obtain ⟨l, n, rfl, rfl, h1, h2, h3⟩ := Wd.tig_at hg
  rcases Wd.digs ha with q | ⟨ns, q, hn⟩
  · cases q
  · obtain rfl := V.l.inj q
    refine (run_ti _ _).trans ?_
    rw [Wd.ti_law h1 (by simpa using h2) h3]
    show _ = some [Rs.d _ (.l ((Wd.timesN n.toNat (bytesN (.l (ns.map nv)))).map nv))]
    rw [bytesN_eq (x := .l (ns.map nv)) rfl]
noncomputable def K28 : KC := runAC Try.prog T tab28 false FU 4
theorem hK28 : K28.nat := runAC_nat tab28_ok 4
theorem hS28 : KOK Try.prog T K28.dir := runAC_ok follows T_ok tab28_ok 4
open Go.Vm.Wd (PBj QBj BBj PBi QBi BBi)
noncomputable def tmBj : PBj → Vm.St
  | .m r j x q l n i => ⟨[(3, .i .i64 r), (4, .i .i64 j), (5, .i .u64 x), (6, .i .i64 q), (7, .v 47 (.l l)), (8, .i .i64 n), (9, .i .i64 i)], .e, [], 0, some []⟩
noncomputable def ekBj (R : Type) (kx : Exit → Vm.St → Option R) : QBj → Option R
  | .o r j x q l n i => kx (.exit 2) ⟨[(3, .i .i64 r), (4, .i .i64 j), (5, .i .u64 x), (6, .i .i64 q), (7, .v 47 (.l l)), (8, .i .i64 n), (9, .i .i64 i)], .e, [], 16, some []⟩
noncomputable def extBj : Vm.St → Option PBj
  | ⟨[(3, .i .i64 r), (4, .i .i64 j), (5, .i .u64 x), (6, .i .i64 q), (7, .v 47 (.l l)), (8, .i .i64 n), (9, .i .i64 i)], .e, [], 0, some []⟩ => some (.m r j x q l n i)
  | _ => none
theorem extBj_ok (τ : Vm.St) (x : PBj) (h : extBj τ = some x) : τ = tmBj x := by
  unfold extBj at h
  split at h <;> first | (cases h; rfl) | cases h
theorem stepBj (R : Type) (of : Nat → Option Ob) (x : PBj) (K : Vm.St → Option R) (kx : Exit → Vm.St → Option R) : execC T K28 (fun _ => none) false FU (ntOf Try.prog 33) of R (lp (codeOf Try.prog 33) 1) (tmBj x) (sortN 0 [3, 4, 5, 6, 7, 8, 9] 16 K kx) = BBj R x (fun x' => K (tmBj x')) (ekBj R kx) := by
  cases x with
  | m _ _ _ _ _ _ _ => kernel_rfl
noncomputable def HBj : LS := loopH T K28 (fun _ => none) (ntOf Try.prog 33) (lp (codeOf Try.prog 33) 1) 0 [3, 4, 5, 6, 7, 8, 9] 16 extBj BBj ekBj
theorem HBj_ok : LoopTk Try.prog T (ntOf Try.prog 33) 0 (lp (codeOf Try.prog 33) 1) HBj :=
  loopH_ok follows T_ok hK28 hS28 loNat_none (loopsOK_none _) tmBj extBj_ok stepBj
noncomputable def tmBi : PBi → Vm.St
  | .m r l n i => ⟨[(3, .i .i64 r), (7, .v 47 (.l l)), (8, .i .i64 n), (9, .i .i64 i)], .e, [], 0, some []⟩
noncomputable def ekBi (R : Type) (kx : Exit → Vm.St → Option R) : QBi → Option R
  | .o r l n i => kx (.exit 0) ⟨[(3, .i .i64 r), (7, .v 47 (.l l)), (8, .i .i64 n), (9, .i .i64 i)], .e, [], 64, some []⟩
noncomputable def extBi : Vm.St → Option PBi
  | ⟨[(3, .i .i64 r), (7, .v 47 (.l l)), (8, .i .i64 n), (9, .i .i64 i)], .e, [], 0, some []⟩ => some (.m r l n i)
  | _ => none
theorem extBi_ok (τ : Vm.St) (x : PBi) (h : extBi τ = some x) : τ = tmBi x := by
  unfold extBi at h
  split at h <;> first | (cases h; rfl) | cases h
theorem stepBi (R : Type) (of : Nat → Option Ob) (x : PBi) (K : Vm.St → Option R) (kx : Exit → Vm.St → Option R) : execC T K28 (loT [(6, HBj)]) false FU (ntOf Try.prog 33) of R (lp (codeOf Try.prog 33) 0) (tmBi x) (sortN 0 [3, 7, 8, 9] 64 K kx) = BBi R x (fun x' => K (tmBi x')) (ekBi R kx) := by
  cases x with
  | m _ _ _ _ => kernel_rfl
noncomputable def HBi : LS := loopH T K28 (loT [(6, HBj)]) (ntOf Try.prog 33) (lp (codeOf Try.prog 33) 0) 0 [3, 7, 8, 9] 64 extBi BBi ekBi
theorem HBi_ok : LoopTk Try.prog T (ntOf Try.prog 33) 0 (lp (codeOf Try.prog 33) 0) HBi :=
  loopH_ok follows T_ok hK28 hS28 (loT_nat (List.forall_mem_cons.2 ⟨HBj_ok.1, fun _ h => by cases h⟩)) (loopsOK_at 1 (by kernel_rfl) ⟨trivial, loI (s0 := HBj) (by kernel_rfl) ((show lp (lp (codeOf Try.prog 33) 0) 0 = lp (codeOf Try.prog 33) 1 from by kernel_rfl) ▸ HBj_ok)⟩) tmBi extBi_ok stepBi
noncomputable def LoBi : Nat → LC := atN 0 [(3, HBi), (6, HBj)]
theorem LoBi_ok : LoopsC Try.prog T 33 LoBi := loopsC_at 0 (List.forall_mem_cons.2 ⟨HBi_ok.1, List.forall_mem_cons.2 ⟨HBj_ok.1, fun _ h => by cases h⟩⟩) 2 (by kernel_rfl) ⟨⟨trivial, loI (s0 := HBi) (by kernel_rfl) HBi_ok⟩, loI (s0 := HBj) (by kernel_rfl) HBj_ok⟩
theorem run_db (l : List V) : runFC Try.prog T K28 LoBi false FU 33 (List Rs) (mkAs T [47] [.l l]) (fun _ => none) 0 (fun out => resC T true [.d 3] out) = Wd.dbG l (fun x => some [.d 3 (.i x)]) := by kernel_rfl
noncomputable def tab29 : List (Nat × SymC) := (33, pureS T true [47] (gF Wd.dbg_ (Wd.dbr 3))) :: tab28
theorem tab29_ok : TabOK Try.prog T tab29 := by
  refine pure_conG (sh := true) (rk := [.d 3]) (d := 4) (fu := FU) (Lo := LoBi) (ds := [.slice (.int .u64)]) follows T_ok tab28_ok (by kernel_rfl) LoBi_ok 40 (by kernel_rfl) (fun xs hd hg => ?_)
  obtain ⟨a, rfl, ha⟩ := hasL1 hd
  obtain ⟨l, rfl, h1⟩ := Wd.dbg_at hg
  rcases Wd.digs ha with q | ⟨ns, q, hn⟩
  · cases q
  · obtain rfl := V.l.inj q
    refine (run_db _).trans ?_
    rw [Wd.db_law (by simpa using h1) hn]
    show _ = some [Rs.d _ (.i (Wd.bitsN 0 0 (bytesN (.l (ns.map nv))) : Nat))]
    rw [bytesN_eq (x := .l (ns.map nv)) rfl]
noncomputable def K29 : KC := runAC Try.prog T tab29 false FU 4
theorem hK29 : K29.nat := runAC_nat tab29_ok 4
theorem hS29 : KOK Try.prog T K29.dir := runAC_ok follows T_ok tab29_ok 4
noncomputable def tmCp : PCp → Vm.St
  | .m a b r i => ⟨[(0, .v 47 a), (1, .v 47 b), (4, .i .i64 r), (5, .i .i64 i)], .e, [], 0, some []⟩
noncomputable def ekCp (R : Type) (kx : Exit → Vm.St → Option R) : QCp → Option R
  | .r a b r i => kx (.ret) ⟨[(0, .v 47 a), (1, .v 47 b), (4, .i .i64 r), (5, .i .i64 i)], .e, [], 8, some []⟩
  | .o a b r i => kx (.exit 0) ⟨[(0, .v 47 a), (1, .v 47 b), (4, .i .i64 r), (5, .i .i64 i)], .e, [], 8, some []⟩
noncomputable def extCp : Vm.St → Option PCp
  | ⟨[(0, .v 47 a), (1, .v 47 b), (4, .i .i64 r), (5, .i .i64 i)], .e, [], 0, some []⟩ => some (.m a b r i)
  | _ => none
theorem extCp_ok (τ : Vm.St) (x : PCp) (h : extCp τ = some x) : τ = tmCp x := by
  unfold extCp at h
  split at h <;> first | (cases h; rfl) | cases h
theorem stepCp (R : Type) (of : Nat → Option Ob) (x : PCp) (K : Vm.St → Option R) (kx : Exit → Vm.St → Option R) : execC T K29 (fun _ => none) false FU (ntOf Try.prog 20) of R (lp (codeOf Try.prog 20) 0) (tmCp x) (sortN 0 [0, 1, 4, 5] 8 K kx) = BCp R x (fun x' => K (tmCp x')) (ekCp R kx) := by
  cases x with
  | m _ _ _ _ => kernel_rfl
noncomputable def HCp : LS := loopH T K29 (fun _ => none) (ntOf Try.prog 20) (lp (codeOf Try.prog 20) 0) 0 [0, 1, 4, 5] 8 extCp BCp ekCp
theorem HCp_ok : LoopTk Try.prog T (ntOf Try.prog 20) 0 (lp (codeOf Try.prog 20) 0) HCp :=
  loopH_ok follows T_ok hK29 hS29 loNat_none (loopsOK_none _) tmCp extCp_ok stepCp
noncomputable def LoCp : Nat → LC := atN 0 [(2, HCp)]
theorem LoCp_ok : LoopsC Try.prog T 20 LoCp := loopsC_at 0 (List.forall_mem_cons.2 ⟨HCp_ok.1, fun _ h => by cases h⟩) 1 (by kernel_rfl) ⟨trivial, loI (s0 := HCp) (by kernel_rfl) HCp_ok⟩
theorem run_cp (a b : V) : runFC Try.prog T K29 LoCp false FU 20 (List Rs) (mkAs T [47, 47] [a, b]) (fun _ => none) 0 (fun out => resC T true [.d 3] out) = Gcp 3 (List Rs) [a, b] some := by kernel_rfl
noncomputable def tab30 : List (Nat × SymC) := (20, pureS T true [47, 47] (gF Wd.cpg (Wd.cpr 3))) :: tab29
theorem tab30_ok : TabOK Try.prog T tab30 := by
  refine pure_conG (sh := true) (rk := [.d 3]) (d := 4) (fu := FU) (Lo := LoCp) (ds := [.slice (.int .u64), .slice (.int .u64)]) follows T_ok tab29_ok (by kernel_rfl) LoCp_ok 40 (by kernel_rfl) (fun xs hd hg => ?_)
  obtain ⟨a, b, rfl, ha, hb⟩ := hasL2 hd
  obtain ⟨l, m, rfl, rfl, h1, h2⟩ := Wd.cpg_at hg
  rcases Wd.digs ha with q | ⟨na, q, hn⟩
  · cases q
  obtain rfl := V.l.inj q
  rcases Wd.digs hb with q | ⟨nb, q, hn⟩
  · cases q
  obtain rfl := V.l.inj q
  refine (run_cp _ _).trans ?_
  rw [Wd.cp_num h1 h2]
  show _ = some [Rs.d _ (.i (Wd.cmpI (Wd.valN (bytesN (.l (na.map nv)))) (Wd.valN (bytesN (.l (nb.map nv))))))]
  rw [bytesN_eq (x := .l (na.map nv)) rfl, bytesN_eq (x := .l (nb.map nv)) rfl]
noncomputable def K30 : KC := runAC Try.prog T tab30 false FU 4
theorem hK30 : K30.nat := runAC_nat tab30_ok 4
theorem hS30 : KOK Try.prog T K30.dir := runAC_ok follows T_ok tab30_ok 4
end Go.Proofs.Ytgnfgafiegimoaa

namespace Go.Proofs.Ytgnfgafiegimoaa
open Go.Vm
set_option maxRecDepth 100000
set_option linter.unusedVariables false
set_option linter.constructorNameAsVariable false
open Go.Vm.Wd (PXm QXm BXm)
noncomputable def tmXm : PXm → Vm.St
  | .m b m e q => ⟨[(0, .i .u32 b), (4, .i .u64 m), (5, .i .i64 e), (6, .i .i64 q)], .e, [], 0, some []⟩
noncomputable def ekXm (R : Type) (kx : Exit → Vm.St → Option R) : QXm → Option R
  | .o b m e q => kx (.exit 0) ⟨[(0, .i .u32 b), (4, .i .u64 m), (5, .i .i64 e), (6, .i .i64 q)], .e, [], 16, some []⟩
noncomputable def extXm : Vm.St → Option PXm
  | ⟨[(0, .i .u32 b), (4, .i .u64 m), (5, .i .i64 e), (6, .i .i64 q)], .e, [], 0, some []⟩ => some (.m b m e q)
  | _ => none
theorem extXm_ok (τ : Vm.St) (x : PXm) (h : extXm τ = some x) : τ = tmXm x := by
  unfold extXm at h
  split at h <;> first | (cases h; rfl) | cases h
theorem stepXm (R : Type) (of : Nat → Option Ob) (x : PXm) (K : Vm.St → Option R) (kx : Exit → Vm.St → Option R) : execC T K30 (fun _ => none) false FU (ntOf Try.prog 18) of R (lp (codeOf Try.prog 18) 0) (tmXm x) (sortN 0 [0, 4, 5, 6] 16 K kx) = BXm R x (fun x' => K (tmXm x')) (ekXm R kx) := by
  cases x with
  | m _ _ _ _ => kernel_rfl
noncomputable def HXm : LS := loopH T K30 (fun _ => none) (ntOf Try.prog 18) (lp (codeOf Try.prog 18) 0) 0 [0, 4, 5, 6] 16 extXm BXm ekXm
theorem HXm_ok : LoopTk Try.prog T (ntOf Try.prog 18) 0 (lp (codeOf Try.prog 18) 0) HXm :=
  loopH_ok follows T_ok hK30 hS30 loNat_none (loopsOK_none _) tmXm extXm_ok stepXm
noncomputable def LoXm : Nat → LC := atN 0 [(3, HXm)]
theorem LoXm_ok : LoopsC Try.prog T 18 LoXm := loopsC_at 0 (List.forall_mem_cons.2 ⟨HXm_ok.1, fun _ h => by cases h⟩) 1 (by kernel_rfl) ⟨trivial, loI (s0 := HXm) (by kernel_rfl) HXm_ok⟩
theorem run_xd (b : Int) : runFC Try.prog T K30 LoXm false FU 18 (List Rs) (mkAs T [22] [.i b]) (fun _ => none) 0 (fun out => resC T true [.d 47, .d 3] out) = Wd.exD b (fun x e => some [.d 47 x, .d 3 (.i e)]) := by kernel_rfl
noncomputable def tab31 : List (Nat × SymC) := (18, pureS T true [22] (gF (fun _ => true) (fun xs => match xs with | [x] => [.d 47 (.l ((Wd.edN x.int.toNat).map nv)), .d 3 (.i (Wd.eerr x.int.toNat))] | _ => []))) :: tab30
theorem tab31_ok : TabOK Try.prog T tab31 := by
  refine pure_conG (sh := true) (rk := [.d 47, .d 3]) (d := 4) (fu := FU) (Lo := LoXm) (ds := [.int .u32]) follows T_ok tab30_ok (by kernel_rfl) LoXm_ok 40 (by kernel_rfl) (fun xs hd hg => ?_)
  obtain ⟨a, rfl, ha⟩ := hasL1 hd
  obtain ⟨n, rfl, h1, h2⟩ := ha
  simp only [lo, hi] at h1 h2
  obtain ⟨b, rfl⟩ := Int.eq_ofNat_of_zero_le h1
  exact (run_xd _).trans (Wd.ex_law (by omega) _)
noncomputable def K31 : KC := runAC Try.prog T tab31 false FU 4
theorem hK31 : K31.nat := runAC_nat tab31_ok 4
theorem hS31 : KOK Try.prog T K31.dir := runAC_ok follows T_ok tab31_ok 4
end Go.Proofs.Ytgnfgafiegimoaa

namespace Go.Proofs.Ytgnfgafiegimoaa
open Go.Vm
set_option maxRecDepth 100000
set_option linter.unusedVariables false
set_option linter.constructorNameAsVariable false
theorem run_md (v t b n : Int) (p q : Nat → V) : runFC Try.prog T K31 (fun _ _ => none) false FU 7 (List Rs) (mkAs T [26] [.l [.i v, .l (l32 p), .l (l32 q), .i t, .i b, .i n]]) (fun _ => none) 0 (fun out => resC T true [.d 4] out) = Wd.mdI (.l [.i v, .l (l32 p), .l (l32 q), .i t, .i b, .i n]) ((Wd.hdN (.l [.i v, .l (l32 p), .l (l32 q), .i t, .i b, .i n])).map nv) (fun a => some [.d 4 (.b a)]) := by kernel_rfl
noncomputable def tab32 : List (Nat × SymC) := (7, pureS T true [26] (gF (fun _ => true) (Wd.mtr 4))) :: tab31
theorem tab32_ok : TabOK Try.prog T tab32 := by
  refine pure_conG (sh := true) (rk := [.d 4]) (d := 4) (fu := FU) (Lo := (fun _ _ => none)) (ds := [DHead]) follows T_ok tab31_ok (by kernel_rfl) loopsC_none 40 (by kernel_rfl) (fun xs hd hg => ?_)
  obtain ⟨a, rfl, ha⟩ := hasL1 hd
  obtain ⟨v, t, b, n, ps, rs, rfl, p1, r1, _, _, _, _, hb, _⟩ := head_v ha
  have e1 := l32_of (l := ps.map nv) (by rw [List.length_map]; exact p1)
  have e2 := l32_of (l := rs.map nv) (by rw [List.length_map]; exact r1)
  rw [e1, e2]
  refine (run_md _ _ _ _ _ _).trans ?_
  refine Wd.md_law _ ?_ _
  show ((b : Nat) : Int).toNat < 4294967296
  omega
noncomputable def K32 : KC := runAC Try.prog T tab32 false FU 4
theorem hK32 : K32.nat := runAC_nat tab32_ok 4
theorem hS32 : KOK Try.prog T K32.dir := runAC_ok follows T_ok tab32_ok 4
end Go.Proofs.Ytgnfgafiegimoaa

namespace Go.Proofs.Ytgnfgafiegimoaa
open Go.Vm
set_option maxRecDepth 100000
set_option linter.unusedVariables false
set_option linter.constructorNameAsVariable false
noncomputable def tab33 : List (Nat × SymC) := (5, aliveC) :: tab32
theorem tab33_ok : TabOK Try.prog T tab33 := tab32_ok.cons aliveC_nat alive
noncomputable def K33 : KC := runAC Try.prog T tab33 false FU 4
theorem hK33 : K33.nat := runAC_nat tab33_ok 4
theorem hS33 : KOK Try.prog T K33.dir := runAC_ok follows T_ok tab33_ok 4
theorem run_law (v t b n : Int) (p q : Nat → V) : runFC Try.prog T K33 (fun _ _ => none) false FU 3 Unit (mkAs T [26] [.l [.i v, .l (l32 p), .l (l32 q), .i t, .i b, .i n]]) (fun _ => none) 0 tellT = Wd.wmG (Wd.mtb (.l [.i v, .l (l32 p), .l (l32 q), .i t, .i b, .i n])) := by kernel_rfl
theorem law_run (xs : List V) (hd : D.hasL [DHead] xs) (hm : D.smL [DHead] xs) : runFC Try.prog T (runAC Try.prog T tab33 false FU 4) (fun _ _ => none) false FU 3 Unit (mkAs T [26] xs) (fun _ => none) 0 tellT = some () := by
  obtain ⟨a, rfl, ha⟩ := hasL1 hd
  obtain ⟨v, t, b, n, ps, rs, rfl, p1, r1, _⟩ := head_v ha
  have e1 := l32_of (l := ps.map nv) (by rw [List.length_map]; exact p1)
  have e2 := l32_of (l := rs.map nv) (by rw [List.length_map]; exact r1)
  rw [e1, e2]
  exact (run_law _ _ _ _ _ _).trans (Wd.wmG_law _)
theorem law_lo : LoopsC Try.prog T 3 (fun _ _ => none) := loopsC_none
theorem law_nat : (runFC Try.prog T (runAC Try.prog T tab33 false FU 4) (fun _ _ => none) false FU 3).nat := runFC_nat (runAC_nat tab33_ok 4) law_lo.nat
theorem law_ok : SymOK Try.prog T 3 (runFC Try.prog T (runAC Try.prog T tab33 false FU 4) (fun _ _ => none) false FU 3).dir := runFC_ok follows T_ok (runAC_nat tab33_ok 4) (runAC_ok follows T_ok tab33_ok 4) law_lo.nat law_lo.ok
end Go.Proofs.Ytgnfgafiegimoaa
end

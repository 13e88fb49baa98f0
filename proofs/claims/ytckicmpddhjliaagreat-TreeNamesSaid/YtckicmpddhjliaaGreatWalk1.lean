/- What functions compute, and the law run. -/
import Derived.Test.YtckicmpddhjliaaGreatTy
import Derived.Test.YtckicmpddhjliaaGreatVm10
import Derived.Test.YtckicmpddhjliaaGreatVm11
set_option linter.constructorNameAsVariable false
set_option linter.unusedVariables false
set_option linter.unusedSimpArgs false
noncomputable section
namespace Go.Proofs.YtckicmpddhjliaaGreat
open Go.Vm
set_option maxRecDepth 100000
set_option linter.unusedVariables false
noncomputable def tab1 : List (Nat × SymC) := []
theorem tab1_ok : TabOK Tryz.prog T tab1 := tabOK_nil
noncomputable def K1 : KC := runAC Tryz.prog T tab1 false FU 4
theorem hK1 : K1.nat := runAC_nat tab1_ok 4
theorem hS1 : ∀ f, SymOK Tryz.prog T f (K1 f).dir := runAC_ok follows T_ok tab1_ok 4
def tmSpA : PSpA → Vm.St
  | .m x z i w => ⟨[(0, .v 64 x), (2, .p 0 154 []), (3, .p 1 154 []), (8, .i .i64 i)], (.n (some (.box 154 (.v 154 z) false)) (.n (some (.box 154 (.v 154 w) false)) .e .e) .e), [], 2, some []⟩
def ekSpA (R : Type) (kx : Exit → Vm.St → Option R) : QSpA → Option R
  | .o x z i w => kx (.exit 0) ⟨[(0, .v 64 x), (2, .p 0 154 []), (3, .p 1 154 []), (8, .i .i64 i)], (.n (some (.box 154 (.v 154 z) false)) (.n (some (.box 154 (.v 154 w) false)) .e .e) .e), [], 16, some []⟩
def extSpA : Vm.St → Option PSpA
  | ⟨[(0, .v 64 x), (2, .p 0 154 []), (3, .p 1 154 []), (8, .i .i64 i)], (.n (some (.box 154 (.v 154 z) false)) (.n (some (.box 154 (.v 154 w) false)) .e .e) .e), [], 2, some []⟩ => some (.m x z i w)
  | _ => none
theorem extSpA_ok (τ : Vm.St) (x : PSpA) (h : extSpA τ = some x) : τ = tmSpA x := by
  unfold extSpA at h
  split at h <;> first | (cases h; rfl) | cases h
theorem stepSpA (R : Type) (of : Nat → Option Ob) (x : PSpA) (K : Vm.St → Option R) (kx : Exit → Vm.St → Option R) : execC T K1 (fun _ => none) false FU (ntOf Tryz.prog 102) of R (lp (codeOf Tryz.prog 102) 0) (tmSpA x) (sortN 0 [0, 2, 3, 8] 16 K kx) = BSpA R x (fun x' => K (tmSpA x')) (ekSpA R kx) := by
  cases x
  · kernel_rfl
noncomputable def HSpA : LS := loopH T K1 (fun _ => none) (ntOf Tryz.prog 102) (lp (codeOf Tryz.prog 102) 0) 0 [0, 2, 3, 8] 16 extSpA BSpA ekSpA
theorem HSpA_ok : LoopTk Tryz.prog T (ntOf Tryz.prog 102) 0 (lp (codeOf Tryz.prog 102) 0) HSpA :=
  loopH_ok follows T_ok hK1 hS1 loNat_none (loopsOK_none _) tmSpA extSpA_ok stepSpA
def tmSpB : PSpB → Vm.St
  | .m z i w => ⟨[(2, .p 0 154 []), (3, .p 1 154 []), (5, .i .i64 i)], (.n (some (.box 154 (.v 154 z) false)) (.n (some (.box 154 (.v 154 w) false)) .e .e) .e), [], 2, some []⟩
def ekSpB (R : Type) (kx : Exit → Vm.St → Option R) : QSpB → Option R
  | .o z i w => kx (.exit 2) ⟨[(2, .p 0 154 []), (3, .p 1 154 []), (5, .i .i64 i)], (.n (some (.box 154 (.v 154 z) false)) (.n (some (.box 154 (.v 154 w) false)) .e .e) .e), [], 16, some []⟩
def extSpB : Vm.St → Option PSpB
  | ⟨[(2, .p 0 154 []), (3, .p 1 154 []), (5, .i .i64 i)], (.n (some (.box 154 (.v 154 z) false)) (.n (some (.box 154 (.v 154 w) false)) .e .e) .e), [], 2, some []⟩ => some (.m z i w)
  | _ => none
theorem extSpB_ok (τ : Vm.St) (x : PSpB) (h : extSpB τ = some x) : τ = tmSpB x := by
  unfold extSpB at h
  split at h <;> first | (cases h; rfl) | cases h
theorem stepSpB (R : Type) (of : Nat → Option Ob) (x : PSpB) (K : Vm.St → Option R) (kx : Exit → Vm.St → Option R) : execC T K1 (fun _ => none) false FU (ntOf Tryz.prog 102) of R (lp (codeOf Tryz.prog 102) 1) (tmSpB x) (sortN 0 [2, 3, 5] 16 K kx) = BSpB R x (fun x' => K (tmSpB x')) (ekSpB R kx) := by
  cases x
  · kernel_rfl
noncomputable def HSpB : LS := loopH T K1 (fun _ => none) (ntOf Tryz.prog 102) (lp (codeOf Tryz.prog 102) 1) 0 [2, 3, 5] 16 extSpB BSpB ekSpB
theorem HSpB_ok : LoopTk Tryz.prog T (ntOf Tryz.prog 102) 0 (lp (codeOf Tryz.prog 102) 1) HSpB :=
  loopH_ok follows T_ok hK1 hS1 loNat_none (loopsOK_none _) tmSpB extSpB_ok stepSpB
noncomputable def LoSp : Nat → LC := atN 0 [(3, HSpA), (8, HSpB)]
theorem LoSp_ok : LoopsC Tryz.prog T 102 LoSp := loopsC_at 0 (List.forall_mem_cons.2 ⟨HSpA_ok.1, List.forall_mem_cons.2 ⟨HSpB_ok.1, fun _ h => by cases h⟩⟩) 2 (by kernel_rfl) ⟨⟨trivial, loI (s0 := HSpA) (by kernel_rfl) HSpA_ok⟩, loI (s0 := HSpB) (by kernel_rfl) HSpB_ok⟩
noncomputable def Gsp : FC := fun R xs k => match xs with
  | [x] => lpC (BSpA R) (hid FU) (.m x z64 0 z64) (fun | .o _ z _ w => lpC (BSpB R) (hid FU) (.m z 16 w) (fun | .o _ _ w => k [.d 154 w]))
  | _ => none
theorem run_sp (R : Type) (x : V) (k : List Rs → Option R) : runFC Tryz.prog T K1 LoSp false FU 102 R (mkAs T [64] [x]) (fun _ => none) 0 (fun out => ob (resC T false [.d 154] out) k) = Gsp R [x] k := by kernel_rfl
noncomputable def tab2 : List (Nat × SymC) := (102, pureS T false [64] (Fsp 154)) :: tab1
theorem tab2_ok : TabOK Tryz.prog T tab2 := by
  refine pure_run (sh := false) (rk := [.d 154]) (d := 4) (fu := FU) (Lo := LoSp) (G := Gsp) follows T_ok tab1_ok (Fsp_nat 154) (by kernel_rfl) LoSp_ok (fun R xs k htv => ?_) (fun xs rs htv hrs => ?_)
  · match xs, htv.len with
    | [x], _ => exact run_sp R x k
  · match xs, htv, htv.len with
    | [x], htv, _ =>
      obtain ⟨e, cs, hx⟩ := htv.head
      obtain ⟨bs, h1, h2⟩ := tv_slice (T := T) (el := 5) (kd := .u8) (by kernel_rfl) (by kernel_rfl) rfl hx
      simp only [Fsp] at hrs
      cases hl : Nat.ble 64 x.els.length with
      | false => rw [hl] at hrs; cases hrs
      | true =>
        rw [hl] at hrs
        have hl := Nat.le_of_ble_eq_true hl
        rw [h1, List.length_map] at hl
        exact (spread_law h1 (lt256 h2) hl HID (fun w => some [Rs.d 154 w])).trans hrs
noncomputable def K2 : KC := runAC Tryz.prog T tab2 false FU 4
theorem hK2 : K2.nat := runAC_nat tab2_ok 4
theorem hS2 : ∀ f, SymOK Tryz.prog T f (K2 f).dir := runAC_ok follows T_ok tab2_ok 4
def tmMxA : PMxA → Vm.St
  | .m s z w k x i => ⟨[(2, .p 0 146 []), (4, .p 1 146 []), (5, .p 3 154 []), (6, .p 4 154 []), (7, .p 5 146 []), (18, .i .i64 i)], (.n (some (.box 146 (.v 146 s) false)) (.n (some (.box 146 (.v 146 z) false)) (.n (some (.box 154 (.v 154 w) false)) .e .e) (.n (some (.box 146 (.v 146 x) false)) .e .e)) (.n none (.n (some (.box 154 (.v 154 k) false)) .e .e) .e)), [], 6, some []⟩
def ekMxA (R : Type) (kx : Exit → Vm.St → Option R) : QMxA → Option R
  | .o s z w k x i => kx (.exit 0) ⟨[(2, .p 0 146 []), (4, .p 1 146 []), (5, .p 3 154 []), (6, .p 4 154 []), (7, .p 5 146 []), (18, .i .i64 i)], (.n (some (.box 146 (.v 146 s) false)) (.n (some (.box 146 (.v 146 z) false)) (.n (some (.box 154 (.v 154 w) false)) .e .e) (.n (some (.box 146 (.v 146 x) false)) .e .e)) (.n none (.n (some (.box 154 (.v 154 k) false)) .e .e) .e)), [], 16, some []⟩
def extMxA : Vm.St → Option PMxA
  | ⟨[(2, .p 0 146 []), (4, .p 1 146 []), (5, .p 3 154 []), (6, .p 4 154 []), (7, .p 5 146 []), (18, .i .i64 i)], (.n (some (.box 146 (.v 146 s) false)) (.n (some (.box 146 (.v 146 z) false)) (.n (some (.box 154 (.v 154 w) false)) .e .e) (.n (some (.box 146 (.v 146 x) false)) .e .e)) (.n none (.n (some (.box 154 (.v 154 k) false)) .e .e) .e)), [], 6, some []⟩ => some (.m s z w k x i)
  | _ => none
theorem extMxA_ok (τ : Vm.St) (x : PMxA) (h : extMxA τ = some x) : τ = tmMxA x := by
  unfold extMxA at h
  split at h <;> first | (cases h; rfl) | cases h
theorem stepMxA (R : Type) (of : Nat → Option Ob) (x : PMxA) (K : Vm.St → Option R) (kx : Exit → Vm.St → Option R) : execC T K2 (fun _ => none) false FU (ntOf Tryz.prog 98) of R (lp (codeOf Tryz.prog 98) 0) (tmMxA x) (sortN 0 [2, 4, 5, 6, 7, 18] 16 K kx) = BMxA R x (fun x' => K (tmMxA x')) (ekMxA R kx) := by
  cases x
  · kernel_rfl
noncomputable def HMxA : LS := loopH T K2 (fun _ => none) (ntOf Tryz.prog 98) (lp (codeOf Tryz.prog 98) 0) 0 [2, 4, 5, 6, 7, 18] 16 extMxA BMxA ekMxA
theorem HMxA_ok : LoopTk Tryz.prog T (ntOf Tryz.prog 98) 0 (lp (codeOf Tryz.prog 98) 0) HMxA :=
  loopH_ok follows T_ok hK2 hS2 loNat_none (loopsOK_none _) tmMxA extMxA_ok stepMxA
def tmMxB : PMxB → Vm.St
  | .m s z x i => ⟨[(2, .p 0 146 []), (4, .p 1 146 []), (7, .p 5 146 []), (98, .i .i64 i)], (.n (some (.box 146 (.v 146 s) false)) (.n (some (.box 146 (.v 146 z) false)) .e (.n (some (.box 146 (.v 146 x) false)) .e .e)) .e), [], 6, some []⟩
def ekMxB (R : Type) (kx : Exit → Vm.St → Option R) : QMxB → Option R
  | .o s z x i => kx (.exit 2) ⟨[(2, .p 0 146 []), (4, .p 1 146 []), (7, .p 5 146 []), (98, .i .i64 i)], (.n (some (.box 146 (.v 146 s) false)) (.n (some (.box 146 (.v 146 z) false)) .e (.n (some (.box 146 (.v 146 x) false)) .e .e)) .e), [], 16, some []⟩
def extMxB : Vm.St → Option PMxB
  | ⟨[(2, .p 0 146 []), (4, .p 1 146 []), (7, .p 5 146 []), (98, .i .i64 i)], (.n (some (.box 146 (.v 146 s) false)) (.n (some (.box 146 (.v 146 z) false)) .e (.n (some (.box 146 (.v 146 x) false)) .e .e)) .e), [], 6, some []⟩ => some (.m s z x i)
  | _ => none
theorem extMxB_ok (τ : Vm.St) (x : PMxB) (h : extMxB τ = some x) : τ = tmMxB x := by
  unfold extMxB at h
  split at h <;> first | (cases h; rfl) | cases h
theorem stepMxB (R : Type) (of : Nat → Option Ob) (x : PMxB) (K : Vm.St → Option R) (kx : Exit → Vm.St → Option R) : execC T K2 (fun _ => none) false FU (ntOf Tryz.prog 98) of R (lp (codeOf Tryz.prog 98) 1) (tmMxB x) (sortN 0 [2, 4, 7, 98] 16 K kx) = BMxB R x (fun x' => K (tmMxB x')) (ekMxB R kx) := by
  cases x
  · kernel_rfl
noncomputable def HMxB : LS := loopH T K2 (fun _ => none) (ntOf Tryz.prog 98) (lp (codeOf Tryz.prog 98) 1) 0 [2, 4, 7, 98] 16 extMxB BMxB ekMxB
theorem HMxB_ok : LoopTk Tryz.prog T (ntOf Tryz.prog 98) 0 (lp (codeOf Tryz.prog 98) 1) HMxB :=
  loopH_ok follows T_ok hK2 hS2 loNat_none (loopsOK_none _) tmMxB extMxB_ok stepMxB
noncomputable def LoMx : Nat → LC := atN 0 [(3, HMxA), (11, HMxB)]
theorem LoMx_ok : LoopsC Tryz.prog T 98 LoMx := loopsC_at 0 (List.forall_mem_cons.2 ⟨HMxA_ok.1, List.forall_mem_cons.2 ⟨HMxB_ok.1, fun _ h => by cases h⟩⟩) 2 (by kernel_rfl) ⟨⟨trivial, loI (s0 := HMxA) (by kernel_rfl) HMxA_ok⟩, loI (s0 := HMxB) (by kernel_rfl) HMxB_ok⟩
noncomputable def Gmx : FC := fun R xs k => match xs with
  | [s, b] => bif Nat.ble 64 b.els.length then lpC (BMxA R) (hid FU) (.m s z8 (spW b) keysV s 0) (fun | .o s z _ _ x _ => lpC (BMxB R) (hid FU) (.m s z x 0) (fun | .o s _ _ _ => k [.d 146 s])) else none
  | _ => none
theorem run_mx (R : Type) (s b : V) (k : List Rs → Option R) : runFC Tryz.prog T K2 LoMx false FU 98 R (mkAs T [146, 64] [s, b]) (fun _ => none) 0 (fun out => ob (resC T false [.d 146] out) k) = Gmx R [s, b] k := by kernel_rfl
noncomputable def tab3 : List (Nat × SymC) := (98, pureS T false [146, 64] (Fmx 146)) :: tab2
theorem tab3_ok : TabOK Tryz.prog T tab3 := by
  refine pure_run (sh := false) (rk := [.d 146]) (d := 4) (fu := FU) (Lo := LoMx) (G := Gmx) follows T_ok tab2_ok (Fmx_nat 146) (by kernel_rfl) LoMx_ok (fun R xs k htv => ?_) (fun xs rs htv hrs => ?_)
  · match xs, htv.len with
    | [s, b], _ => exact run_mx R s b k
  · match xs, htv, htv.len with
    | [s, b], htv, _ =>
      obtain ⟨e, cs, hs⟩ := htv.head
      obtain ⟨e2, cs2, hx⟩ := htv.tail.head
      obtain ⟨bs, h1, h2⟩ := tv_slice (T := T) (el := 5) (kd := .u8) (by kernel_rfl) (by kernel_rfl) rfl hx
      obtain ⟨ns, rfl, n1, n2⟩ := tv_arr (T := T) (n := 8) (el := 25) (kd := .u32) (by kernel_rfl) (by kernel_rfl) rfl hs
      obtain ⟨s8, hs8, hok⟩ := stV_of n1 n2
      rw [hs8] at hrs ⊢
      simp only [Fmx] at hrs
      cases hl : Nat.ble 64 b.els.length with
      | false => rw [hl] at hrs; cases hrs
      | true =>
        rw [hl] at hrs
        simp only [Gmx, hl, cond_true]
        have hl := Nat.le_of_ble_eq_true hl
        rw [h1, List.length_map] at hl
        exact (mix_law hok h1 (lt256 h2) hl HID (fun w => some [Rs.d 146 w])).trans hrs
noncomputable def K3 : KC := runAC Tryz.prog T tab3 false FU 4
theorem hK3 : K3.nat := runAC_nat tab3_ok 4
theorem hS3 : ∀ f, SymOK Tryz.prog T f (K3 f).dir := runAC_ok follows T_ok tab3_ok 4
end Go.Proofs.YtckicmpddhjliaaGreat

namespace Go.Proofs.YtckicmpddhjliaaGreat
open Go.Vm
set_option maxRecDepth 100000
set_option linter.unusedVariables false
def tmPdA : PPdA → Vm.St
  | .m b xs => ⟨[(0, .v 64 b), (3, .o 1 1)], (.n none (.n (some (.row 5 1 xs false false)) .e .e) .e), [], 2, some []⟩
def ekPdA (R : Type) (kx : Exit → Vm.St → Option R) : QPdA → Option R
  | .o b xs => kx (.exit 0) ⟨[(0, .v 64 b), (3, .o 1 1)], (.n none (.n (some (.row 5 1 xs false false)) .e .e) .e), [], 8, some []⟩
def extPdA : Vm.St → Option PPdA
  | ⟨[(0, .v 64 b), (3, .o 1 1)], (.n none (.n (some (.row 5 1 xs false false)) .e .e) .e), [], 2, some []⟩ => some (.m b xs)
  | _ => none
theorem extPdA_ok (τ : Vm.St) (x : PPdA) (h : extPdA τ = some x) : τ = tmPdA x := by
  unfold extPdA at h
  split at h <;> first | (cases h; rfl) | cases h
theorem stepPdA (R : Type) (of : Nat → Option Ob) (x : PPdA) (K : Vm.St → Option R) (kx : Exit → Vm.St → Option R) : execC T K3 (fun _ => none) false FU (ntOf Tryz.prog 79) of R (lp (codeOf Tryz.prog 79) 0) (tmPdA x) (sortN 0 [0, 3] 8 K kx) = BPdA R x (fun x' => K (tmPdA x')) (ekPdA R kx) := by
  cases x
  · kernel_rfl
noncomputable def HPdA : LS := loopH T K3 (fun _ => none) (ntOf Tryz.prog 79) (lp (codeOf Tryz.prog 79) 0) 0 [0, 3] 8 extPdA BPdA ekPdA
theorem HPdA_ok : LoopTk Tryz.prog T (ntOf Tryz.prog 79) 0 (lp (codeOf Tryz.prog 79) 0) HPdA :=
  loopH_ok follows T_ok hK3 hS3 loNat_none (loopsOK_none _) tmPdA extPdA_ok stepPdA
noncomputable def LoPd : Nat → LC := atN 0 [(2, HPdA)]
theorem LoPd_ok : LoopsC Tryz.prog T 79 LoPd := loopsC_at 0 (List.forall_mem_cons.2 ⟨HPdA_ok.1, fun _ h => by cases h⟩) 2 (by kernel_rfl) ⟨⟨trivial, loI (s0 := HPdA) (by kernel_rfl) HPdA_ok⟩, loN (by kernel_rfl)⟩

theorem run_pd (R : Type) (b : V) (k : List Rs → Option R) : runFC Tryz.prog T K3 LoPd false FU 79 R (mkAs T [64] [b]) (fun _ => none) 0 (fun out => ob (resC T false [.r 5] out) k) = Gpd 5 R [b] k := by kernel_rfl
noncomputable def tab4 : List (Nat × SymC) := (79, pureS T false [64] (Fpd 5)) :: tab3
theorem tab4_ok : TabOK Tryz.prog T tab4 := by
  refine pure_run (sh := false) (rk := [.r 5]) (d := 4) (fu := FU) (Lo := LoPd) (G := Gpd 5) follows T_ok tab3_ok (Fpd_nat 5) (by kernel_rfl) LoPd_ok (fun R xs k htv => ?_) (fun xs rs htv hrs => ?_)
  · match xs, htv.len with
    | [b], _ => exact run_pd R b k
  · match xs, htv.len with
    | [b], _ => exact pd_law 5 hrs
noncomputable def K4 : KC := runAC Tryz.prog T tab4 false FU 4
theorem hK4 : K4.nat := runAC_nat tab4_ok 4
theorem hS4 : ∀ f, SymOK Tryz.prog T f (K4 f).dir := runAC_ok follows T_ok tab4_ok 4
def tmSmA : PSmA → Vm.St
  | .m z v xs kk at_ ws i => ⟨[(2, .p 0 27 []), (3, .p 1 132 []), (4, .o 2 1), (5, .p 4 133 []), (6, .i .i64 at_), (7, .o 5 1), (8, .i .i64 i)], (.n (some (.box 27 (.v 27 z) false)) (.n (some (.box 132 (.v 132 v) false)) .e (.n (some (.row 40 1 ws false false)) .e .e)) (.n (some (.row 5 1 xs false false)) (.n (some (.box 133 (.v 133 kk) false)) .e .e) .e)), [], 6, some []⟩
def ekSmA (R : Type) (kx : Exit → Vm.St → Option R) : QSmA → Option R
  | .o z v xs kk at_ ws i => kx (.exit 2) ⟨[(2, .p 0 27 []), (3, .p 1 132 []), (4, .o 2 1), (5, .p 4 133 []), (6, .i .i64 at_), (7, .o 5 1), (8, .i .i64 i)], (.n (some (.box 27 (.v 27 z) false)) (.n (some (.box 132 (.v 132 v) false)) .e (.n (some (.row 40 1 ws false false)) .e .e)) (.n (some (.row 5 1 xs false false)) (.n (some (.box 133 (.v 133 kk) false)) .e .e) .e)), [], 16, some []⟩
def extSmA : Vm.St → Option PSmA
  | ⟨[(2, .p 0 27 []), (3, .p 1 132 []), (4, .o 2 1), (5, .p 4 133 []), (6, .i .i64 at_), (7, .o 5 1), (8, .i .i64 i)], (.n (some (.box 27 (.v 27 z) false)) (.n (some (.box 132 (.v 132 v) false)) .e (.n (some (.row 40 1 ws false false)) .e .e)) (.n (some (.row 5 1 xs false false)) (.n (some (.box 133 (.v 133 kk) false)) .e .e) .e)), [], 6, some []⟩ => some (.m z v xs kk at_ ws i)
  | _ => none
theorem extSmA_ok (τ : Vm.St) (x : PSmA) (h : extSmA τ = some x) : τ = tmSmA x := by
  unfold extSmA at h
  split at h <;> first | (cases h; rfl) | cases h
theorem stepSmA (R : Type) (of : Nat → Option Ob) (x : PSmA) (K : Vm.St → Option R) (kx : Exit → Vm.St → Option R) : execC T K4 (fun _ => none) false FU (ntOf Tryz.prog 53) of R (lp (codeOf Tryz.prog 53) 1) (tmSmA x) (sortN 0 [2, 3, 4, 5, 6, 7, 8] 16 K kx) = BSmA R x (fun x' => K (tmSmA x')) (ekSmA R kx) := by
  cases x
  · kernel_rfl
noncomputable def HSmA : LS := loopH T K4 (fun _ => none) (ntOf Tryz.prog 53) (lp (codeOf Tryz.prog 53) 1) 0 [2, 3, 4, 5, 6, 7, 8] 16 extSmA BSmA ekSmA
theorem HSmA_ok : LoopTk Tryz.prog T (ntOf Tryz.prog 53) 0 (lp (codeOf Tryz.prog 53) 1) HSmA :=
  loopH_ok follows T_ok hK4 hS4 loNat_none (loopsOK_none _) tmSmA extSmA_ok stepSmA
def tmSmB : PSmB → Vm.St
  | .m z v xs kk at_ ws x i => ⟨[(2, .p 0 27 []), (3, .p 1 132 []), (4, .o 2 1), (5, .p 4 133 []), (6, .i .i64 at_), (7, .o 5 1), (13, .p 16 132 []), (14, .i .i64 i)], (.n (some (.box 27 (.v 27 z) false)) (.n (some (.box 132 (.v 132 v) false)) .e (.n (some (.row 40 1 ws false false)) .e .e)) (.n (some (.row 5 1 xs false false)) (.n (some (.box 133 (.v 133 kk) false)) (.n none (.n (some (.box 132 (.v 132 x) false)) .e .e) .e) .e) .e)), [], 17, some []⟩
def ekSmB (R : Type) (kx : Exit → Vm.St → Option R) : QSmB → Option R
  | .o z v xs kk at_ ws x i => kx (.exit 6) ⟨[(2, .p 0 27 []), (3, .p 1 132 []), (4, .o 2 1), (5, .p 4 133 []), (6, .i .i64 at_), (7, .o 5 1), (13, .p 16 132 []), (14, .i .i64 i)], (.n (some (.box 27 (.v 27 z) false)) (.n (some (.box 132 (.v 132 v) false)) .e (.n (some (.row 40 1 ws false false)) .e .e)) (.n (some (.row 5 1 xs false false)) (.n (some (.box 133 (.v 133 kk) false)) (.n none (.n (some (.box 132 (.v 132 x) false)) .e .e) .e) .e) .e)), [], 32, some []⟩
def extSmB : Vm.St → Option PSmB
  | ⟨[(2, .p 0 27 []), (3, .p 1 132 []), (4, .o 2 1), (5, .p 4 133 []), (6, .i .i64 at_), (7, .o 5 1), (13, .p 16 132 []), (14, .i .i64 i)], (.n (some (.box 27 (.v 27 z) false)) (.n (some (.box 132 (.v 132 v) false)) .e (.n (some (.row 40 1 ws false false)) .e .e)) (.n (some (.row 5 1 xs false false)) (.n (some (.box 133 (.v 133 kk) false)) (.n none (.n (some (.box 132 (.v 132 x) false)) .e .e) .e) .e) .e)), [], 17, some []⟩ => some (.m z v xs kk at_ ws x i)
  | _ => none
theorem extSmB_ok (τ : Vm.St) (x : PSmB) (h : extSmB τ = some x) : τ = tmSmB x := by
  unfold extSmB at h
  split at h <;> first | (cases h; rfl) | cases h
theorem stepSmB (R : Type) (of : Nat → Option Ob) (x : PSmB) (K : Vm.St → Option R) (kx : Exit → Vm.St → Option R) : execC T K4 (fun _ => none) false FU (ntOf Tryz.prog 53) of R (lp (codeOf Tryz.prog 53) 3) (tmSmB x) (sortN 0 [2, 3, 4, 5, 6, 7, 13, 14] 32 K kx) = BSmB R x (fun x' => K (tmSmB x')) (ekSmB R kx) := by
  cases x
  · kernel_rfl
noncomputable def HSmB : LS := loopH T K4 (fun _ => none) (ntOf Tryz.prog 53) (lp (codeOf Tryz.prog 53) 3) 0 [2, 3, 4, 5, 6, 7, 13, 14] 32 extSmB BSmB ekSmB
theorem HSmB_ok : LoopTk Tryz.prog T (ntOf Tryz.prog 53) 0 (lp (codeOf Tryz.prog 53) 3) HSmB :=
  loopH_ok follows T_ok hK4 hS4 loNat_none (loopsOK_none _) tmSmB extSmB_ok stepSmB
def tmSmO : PSmO → Vm.St
  | .m z v xs kk at_ => ⟨[(2, .p 0 27 []), (3, .p 1 132 []), (4, .o 2 1), (5, .p 4 133 []), (6, .i .i64 at_)], (.n (some (.box 27 (.v 27 z) false)) (.n (some (.box 132 (.v 132 v) false)) .e .e) (.n (some (.row 5 1 xs false false)) (.n (some (.box 133 (.v 133 kk) false)) .e .e) .e)), [], 5, some []⟩
def ekSmO (R : Type) (kx : Exit → Vm.St → Option R) : QSmO → Option R
  | .o z v xs kk at_ => kx (.exit 0) ⟨[(2, .p 0 27 []), (3, .p 1 132 []), (4, .o 2 1), (5, .p 4 133 []), (6, .i .i64 at_)], (.n (some (.box 27 (.v 27 z) false)) (.n (some (.box 132 (.v 132 v) false)) .e .e) (.n (some (.row 5 1 xs false false)) (.n (some (.box 133 (.v 133 kk) false)) .e .e) .e)), [], 64, some []⟩
def extSmO : Vm.St → Option PSmO
  | ⟨[(2, .p 0 27 []), (3, .p 1 132 []), (4, .o 2 1), (5, .p 4 133 []), (6, .i .i64 at_)], (.n (some (.box 27 (.v 27 z) false)) (.n (some (.box 132 (.v 132 v) false)) .e .e) (.n (some (.row 5 1 xs false false)) (.n (some (.box 133 (.v 133 kk) false)) .e .e) .e)), [], 5, some []⟩ => some (.m z v xs kk at_)
  | _ => none
theorem extSmO_ok (τ : Vm.St) (x : PSmO) (h : extSmO τ = some x) : τ = tmSmO x := by
  unfold extSmO at h
  split at h <;> first | (cases h; rfl) | cases h
theorem stepSmO (R : Type) (of : Nat → Option Ob) (x : PSmO) (K : Vm.St → Option R) (kx : Exit → Vm.St → Option R) : execC T K4 (loT [(9, HSmA), (23, HSmB)]) false FU (ntOf Tryz.prog 53) of R (lp (codeOf Tryz.prog 53) 0) (tmSmO x) (sortN 0 [2, 3, 4, 5, 6] 64 K kx) = BSmO R x (fun x' => K (tmSmO x')) (ekSmO R kx) := by
  cases x
  · kernel_rfl
noncomputable def HSmO : LS := loopH T K4 (loT [(9, HSmA), (23, HSmB)]) (ntOf Tryz.prog 53) (lp (codeOf Tryz.prog 53) 0) 0 [2, 3, 4, 5, 6] 64 extSmO BSmO ekSmO
theorem HSmO_ok : LoopTk Tryz.prog T (ntOf Tryz.prog 53) 0 (lp (codeOf Tryz.prog 53) 0) HSmO :=
  loopH_ok follows T_ok hK4 hS4 (loT_nat (List.forall_mem_cons.2 ⟨HSmA_ok.1, List.forall_mem_cons.2 ⟨HSmB_ok.1, fun _ h => by cases h⟩⟩)) (loopsOK_at 5 (by kernel_rfl) ⟨⟨⟨⟨⟨trivial, loI (s0 := HSmA) (by kernel_rfl) ((show lp (lp (codeOf Tryz.prog 53) 0) 0 = lp (codeOf Tryz.prog 53) 1 from by kernel_rfl) ▸ HSmA_ok)⟩, loN (by kernel_rfl)⟩, loI (s0 := HSmB) (by kernel_rfl) ((show lp (lp (codeOf Tryz.prog 53) 0) 2 = lp (codeOf Tryz.prog 53) 3 from by kernel_rfl) ▸ HSmB_ok)⟩, loN (by kernel_rfl)⟩, loN (by kernel_rfl)⟩) tmSmO extSmO_ok stepSmO
noncomputable def LoSm : Nat → LC := atN 0 [(5, HSmO)]
theorem LoSm_ok : LoopsC Tryz.prog T 53 LoSm := loopsC_at 0 (List.forall_mem_cons.2 ⟨HSmO_ok.1, fun _ h => by cases h⟩) 8 (by kernel_rfl) ⟨⟨⟨⟨⟨⟨⟨⟨trivial, loI (s0 := HSmO) (by kernel_rfl) HSmO_ok⟩, loN (by kernel_rfl)⟩, loN (by kernel_rfl)⟩, loN (by kernel_rfl)⟩, loN (by kernel_rfl)⟩, loN (by kernel_rfl)⟩, loN (by kernel_rfl)⟩, loN (by kernel_rfl)⟩

theorem run_sm (R : Type) (b : V) (k : List Rs → Option R) : runFC Tryz.prog T K4 LoSm false FU 53 R (mkAs T [64] [b]) (fun _ => none) 0 (fun out => ob (resC T false [.d 27] out) k) = Gsm 27 R [b] k := by kernel_rfl
noncomputable def tab5 : List (Nat × SymC) := (53, pureS T false [64] (Fsm 27)) :: tab4
theorem tab5_ok : TabOK Tryz.prog T tab5 := by
  refine pure_run (sh := false) (rk := [.d 27]) (d := 4) (fu := FU) (Lo := LoSm) (G := Gsm 27) follows T_ok tab4_ok (Fsm_nat 27) (by kernel_rfl) LoSm_ok (fun R xs k htv => ?_) (fun xs rs htv hrs => ?_)
  · match xs, htv.len with
    | [b], _ => exact run_sm R b k
  · match xs, htv, htv.len with
    | [b], htv, _ =>
      obtain ⟨e, cs, hx⟩ := htv.head
      obtain ⟨bs, h1, h2⟩ := tv_slice (T := T) (el := 5) (kd := .u8) (by kernel_rfl) (by kernel_rfl) rfl hx
      exact sm_law 27 h1 (lt256 h2) hrs
noncomputable def K5 : KC := runAC Tryz.prog T tab5 false FU 4
theorem hK5 : K5.nat := runAC_nat tab5_ok 4
theorem hS5 : ∀ f, SymOK Tryz.prog T f (K5 f).dir := runAC_ok follows T_ok tab5_ok 4
end Go.Proofs.YtckicmpddhjliaaGreat

namespace Go.Proofs.YtckicmpddhjliaaGreat
open Go.Vm
set_option maxRecDepth 100000
set_option linter.unusedVariables false
def tmAd : PAd → Vm.St
  | .m a b xs c i => ⟨[(0, .v 49 a), (1, .v 49 b), (5, .o 1 1), (6, .i .u64 c), (7, .i .i64 i)], (.n none (.n (some (.row 40 1 xs false false)) .e .e) .e), [], 2, some []⟩
def ekAd (R : Type) (kx : Exit → Vm.St → Option R) : QAd → Option R
  | .o a b xs c i => kx (.exit 0) ⟨[(0, .v 49 a), (1, .v 49 b), (5, .o 1 1), (6, .i .u64 c), (7, .i .i64 i)], (.n none (.n (some (.row 40 1 xs false false)) .e .e) .e), [], 8, some []⟩
def extAd : Vm.St → Option PAd
  | ⟨[(0, .v 49 a), (1, .v 49 b), (5, .o 1 1), (6, .i .u64 c), (7, .i .i64 i)], (.n none (.n (some (.row 40 1 xs false false)) .e .e) .e), [], 2, some []⟩ => some (.m a b xs c i)
  | _ => none
theorem extAd_ok (τ : Vm.St) (x : PAd) (h : extAd τ = some x) : τ = tmAd x := by
  unfold extAd at h
  split at h <;> first | (cases h; rfl) | cases h
theorem stepAd (R : Type) (of : Nat → Option Ob) (x : PAd) (K : Vm.St → Option R) (kx : Exit → Vm.St → Option R) : execC T K5 (fun _ => none) false FU (ntOf Tryz.prog 50) of R (lp (codeOf Tryz.prog 50) 0) (tmAd x) (sortN 0 [0, 1, 5, 6, 7] 8 K kx) = BAd R x (fun x' => K (tmAd x')) (ekAd R kx) := by
  cases x
  · kernel_rfl
noncomputable def HAd : LS := loopH T K5 (fun _ => none) (ntOf Tryz.prog 50) (lp (codeOf Tryz.prog 50) 0) 0 [0, 1, 5, 6, 7] 8 extAd BAd ekAd
theorem HAd_ok : LoopTk Tryz.prog T (ntOf Tryz.prog 50) 0 (lp (codeOf Tryz.prog 50) 0) HAd :=
  loopH_ok follows T_ok hK5 hS5 loNat_none (loopsOK_none _) tmAd extAd_ok stepAd
noncomputable def LoAd : Nat → LC := atN 0 [(4, HAd)]
theorem LoAd_ok : LoopsC Tryz.prog T 50 LoAd := loopsC_at 0 (List.forall_mem_cons.2 ⟨HAd_ok.1, fun _ h => by cases h⟩) 1 (by kernel_rfl) ⟨trivial, loI (s0 := HAd) (by kernel_rfl) HAd_ok⟩

theorem run_ad (R : Type) (a b : V) (k : List Rs → Option R) : runFC Tryz.prog T K5 LoAd false FU 50 R (mkAs T [49, 49] [a, b]) (fun _ => none) 0 (fun out => ob (resC T false [.r 40] out) k) = Gad 40 R [a, b] k := by kernel_rfl
noncomputable def tab6 : List (Nat × SymC) := (50, pureS T false [49, 49] (Fad 40)) :: tab5
theorem tab6_ok : TabOK Tryz.prog T tab6 := by
  refine pure_run (sh := false) (rk := [.r 40]) (d := 4) (fu := FU) (Lo := LoAd) (G := Gad 40) follows T_ok tab5_ok (Fad_nat 40) (by kernel_rfl) LoAd_ok (fun R xs k htv => ?_) (fun xs rs htv hrs => ad_law 40 hrs)
  match xs, htv.len with
  | [a, b], _ => exact run_ad R a b k
def tmCp : PCp → Vm.St
  | .m a b r i => ⟨[(0, .v 49 a), (1, .v 49 b), (4, .i .i64 r), (5, .i .i64 i)], .e, [], 0, some []⟩
def ekCp (R : Type) (kx : Exit → Vm.St → Option R) : QCp → Option R
  | .r a b r i => kx (.ret) ⟨[(0, .v 49 a), (1, .v 49 b), (4, .i .i64 r), (5, .i .i64 i)], .e, [], 8, some []⟩
  | .o a b r i => kx (.exit 0) ⟨[(0, .v 49 a), (1, .v 49 b), (4, .i .i64 r), (5, .i .i64 i)], .e, [], 8, some []⟩
def extCp : Vm.St → Option PCp
  | ⟨[(0, .v 49 a), (1, .v 49 b), (4, .i .i64 r), (5, .i .i64 i)], .e, [], 0, some []⟩ => some (.m a b r i)
  | _ => none
theorem extCp_ok (τ : Vm.St) (x : PCp) (h : extCp τ = some x) : τ = tmCp x := by
  unfold extCp at h
  split at h <;> first | (cases h; rfl) | cases h
theorem stepCp (R : Type) (of : Nat → Option Ob) (x : PCp) (K : Vm.St → Option R) (kx : Exit → Vm.St → Option R) : execC T K5 (fun _ => none) false FU (ntOf Tryz.prog 51) of R (lp (codeOf Tryz.prog 51) 0) (tmCp x) (sortN 0 [0, 1, 4, 5] 8 K kx) = BCp R x (fun x' => K (tmCp x')) (ekCp R kx) := by
  cases x
  · kernel_rfl
noncomputable def HCp : LS := loopH T K5 (fun _ => none) (ntOf Tryz.prog 51) (lp (codeOf Tryz.prog 51) 0) 0 [0, 1, 4, 5] 8 extCp BCp ekCp
theorem HCp_ok : LoopTk Tryz.prog T (ntOf Tryz.prog 51) 0 (lp (codeOf Tryz.prog 51) 0) HCp :=
  loopH_ok follows T_ok hK5 hS5 loNat_none (loopsOK_none _) tmCp extCp_ok stepCp
noncomputable def LoCp : Nat → LC := atN 0 [(2, HCp)]
theorem LoCp_ok : LoopsC Tryz.prog T 51 LoCp := loopsC_at 0 (List.forall_mem_cons.2 ⟨HCp_ok.1, fun _ h => by cases h⟩) 1 (by kernel_rfl) ⟨trivial, loI (s0 := HCp) (by kernel_rfl) HCp_ok⟩
theorem run_cp (R : Type) (a b : V) (k : List Rs → Option R) : runFC Tryz.prog T K5 LoCp false FU 51 R (mkAs T [49, 49] [a, b]) (fun _ => none) 0 (fun out => ob (resC T false [.d 3] out) k) = Gcp 3 R [a, b] k := by kernel_rfl
noncomputable def tab7 : List (Nat × SymC) := (51, pureS T false [49, 49] (Fcp 3)) :: tab6
theorem tab7_ok : TabOK Tryz.prog T tab7 := by
  have h := pure_run (sh := false) (rk := [.d 3]) (d := 4) (fu := FU) (Lo := LoCp) (G := Gcp 3) follows T_ok tab5_ok (Fcp_nat 3) (by kernel_rfl) LoCp_ok (fun R xs k htv => (match xs, htv.len with
    | [a, b], _ => run_cp R a b k)) (fun xs rs htv hrs => cp_law 3 hrs)
  exact tab6_ok.cons (h _ _ (List.mem_cons_self ..)).1 (h _ _ (List.mem_cons_self ..)).2
noncomputable def K7 : KC := runAC Tryz.prog T tab7 false FU 4
theorem hK7 : K7.nat := runAC_nat tab7_ok 4
theorem hS7 : ∀ f, SymOK Tryz.prog T f (K7 f).dir := runAC_ok follows T_ok tab7_ok 4
end Go.Proofs.YtckicmpddhjliaaGreat

namespace Go.Proofs.YtckicmpddhjliaaGreat
open Go.Vm
set_option maxRecDepth 100000
set_option linter.unusedVariables false
noncomputable def tabM0 : List (Nat × Sym) := [(98, (pureS T false [146, 64] (seeF (Fmx 146))).dir), (53, (pureS T false [64] (seeF (Fsm 27))).dir), (52, carry64), (62, borrow64), (50, (pureS T false [49, 49] (seeF (Fad 40))).dir), (51, (pureS T false [49, 49] (seeF (Fcp 3))).dir)]
theorem tabM0_ok : AllS Tryz.prog T tabM0 := ⟨TabOK.see (TabOK.at tab3_ok (by kernel_rfl)), TabOK.see (TabOK.at tab5_ok (by kernel_rfl)), carry64_ok Tryz.func52 (by kernel_rfl) (by kernel_rfl) (by kernel_rfl) (by kernel_rfl), borrow64_ok Tryz.func62 (by kernel_rfl) (by kernel_rfl) (by kernel_rfl) (by kernel_rfl), TabOK.see (TabOK.at tab7_ok (by kernel_rfl)), TabOK.see (TabOK.at tab7_ok (by kernel_rfl)), trivial⟩
def x0_0 : List V := [.l [bl [1, 0, 0, 0, 1, 0, 0, 0, 0, 0, 0, 0, 0, 0, 0, 0, 0, 0, 0, 0, 0, 0, 0, 0, 0, 0, 0, 0, 0, 0, 0, 0, 0, 0, 0, 0, 0, 255, 255, 255, 255, 6, 98, 121, 110, 97, 109, 101, 0, 0, 0, 0, 1, 0, 0, 0, 0, 0, 0, 0, 0, 1, 106, 0, 0, 0, 0]]]
def r0_0 : List Rs := [.d 27 (bl [164, 185, 97, 247, 26, 133, 138, 169, 23, 177, 220, 56, 79, 124, 5, 84, 3, 78, 40, 106, 254, 139, 168, 156, 129, 38, 228, 241, 249, 101, 157, 231])]
theorem mm0_0 : ob (runZ Tryz.prog T tabM0 100000 60 55 (mkAs T [110] x0_0) (fun _ => none) 0) (fun out => resC T false [.d 27] out) = some r0_0 := by kernel_rfl
def x0_1 : List V := [.l [bl [164, 185, 97, 247, 26, 133, 138, 169, 23, 177, 220, 56, 79, 124, 5, 84, 3, 78, 40, 106, 254, 139, 168, 156, 129, 38, 228, 241, 249, 101, 157, 231]]]
def r0_1 : List Rs := [.d 27 (bl [27, 228, 96, 192, 24, 233, 156, 161, 112, 96, 39, 161, 242, 105, 12, 172, 218, 72, 254, 74, 38, 146, 230, 38, 152, 188, 212, 98, 137, 78, 137, 234])]
theorem mm0_1 : ob (runZ Tryz.prog T tabM0 100000 60 55 (mkAs T [110] x0_1) (fun _ => none) 0) (fun out => resC T false [.d 27] out) = some r0_1 := by kernel_rfl
def x0_2 : List V := [.l [bl [1, 0, 0, 0, 0, 0, 0, 0, 0, 0, 0, 0, 0, 0, 0, 0, 0, 0, 0, 0, 0, 0, 0, 0, 0, 0, 0, 0, 0, 0, 0, 0, 0, 0, 0, 0, 27, 228, 96, 192, 24, 233, 156, 161, 112, 96, 39, 161, 242, 105, 12, 172, 218, 72, 254, 74, 38, 146, 230, 38, 152, 188, 212, 98, 137, 78, 137, 234, 0, 202, 154, 59, 255, 255, 127, 32, 0, 0, 0, 0]]]
def r0_2 : List Rs := [.d 27 (bl [30, 142, 222, 220, 65, 59, 120, 14, 231, 129, 242, 81, 22, 124, 166, 126, 57, 108, 10, 92, 117, 197, 61, 184, 88, 189, 119, 47, 216, 235, 59, 136])]
theorem mm0_2 : ob (runZ Tryz.prog T tabM0 100000 60 55 (mkAs T [110] x0_2) (fun _ => none) 0) (fun out => resC T false [.d 27] out) = some r0_2 := by kernel_rfl
def x0_3 : List V := [.l [bl [30, 142, 222, 220, 65, 59, 120, 14, 231, 129, 242, 81, 22, 124, 166, 126, 57, 108, 10, 92, 117, 197, 61, 184, 88, 189, 119, 47, 216, 235, 59, 136]]]
def r0_3 : List Rs := [.d 27 (bl [5, 255, 175, 132, 180, 223, 70, 118, 53, 239, 142, 198, 68, 68, 87, 192, 226, 0, 188, 189, 184, 250, 48, 242, 15, 177, 159, 234, 32, 101, 91, 46])]
theorem mm0_3 : ob (runZ Tryz.prog T tabM0 100000 60 55 (mkAs T [110] x0_3) (fun _ => none) 0) (fun out => resC T false [.d 27] out) = some r0_3 := by kernel_rfl
def x0_4 : List V := [.l [bl [0, 0, 0, 0, 5, 255, 175, 132, 180, 223, 70, 118, 53, 239, 142, 198, 68, 68, 87, 192, 226, 0, 188, 189, 184, 250, 48, 242, 15, 177, 159, 234, 32, 101, 91, 46, 0, 0, 0, 0, 0, 0, 0, 0, 0, 0, 0, 0, 0, 0, 0, 0, 0, 0, 0, 0, 0, 0, 0, 0, 0, 0, 0, 0, 0, 0, 0, 0, 88, 204, 154, 59, 255, 255, 127, 32, 3, 0, 0, 0]]]
def r0_4 : List Rs := [.d 27 (bl [93, 7, 91, 194, 248, 174, 80, 202, 187, 112, 98, 43, 216, 100, 15, 182, 86, 90, 73, 62, 167, 18, 225, 162, 30, 194, 140, 36, 132, 118, 126, 190])]
theorem mm0_4 : ob (runZ Tryz.prog T tabM0 100000 60 55 (mkAs T [110] x0_4) (fun _ => none) 0) (fun out => resC T false [.d 27] out) = some r0_4 := by kernel_rfl
def x0_5 : List V := [.l [bl [93, 7, 91, 194, 248, 174, 80, 202, 187, 112, 98, 43, 216, 100, 15, 182, 86, 90, 73, 62, 167, 18, 225, 162, 30, 194, 140, 36, 132, 118, 126, 190]]]
def r0_5 : List Rs := [.d 27 (bl [225, 128, 182, 162, 136, 197, 102, 11, 150, 105, 204, 108, 200, 33, 24, 212, 120, 121, 251, 98, 203, 118, 144, 1, 37, 109, 85, 46, 254, 186, 107, 62])]
theorem mm0_5 : ob (runZ Tryz.prog T tabM0 100000 60 55 (mkAs T [110] x0_5) (fun _ => none) 0) (fun out => resC T false [.d 27] out) = some r0_5 := by kernel_rfl
def x0_6 : List V := [.l [bl [0, 0, 0, 0, 0, 0, 0, 0, 0, 0, 0, 0, 0, 0, 0, 0, 0, 0, 0, 0, 0, 0, 0, 0, 0, 0, 0, 0, 0, 0, 0, 0, 0, 0, 0, 0, 0, 0, 0, 0, 0, 0, 0, 0, 0, 0, 0, 0, 0, 0, 0, 0, 0, 0, 0, 0, 0, 0, 0, 0, 0, 0, 0, 0, 0, 0, 0, 0, 0, 0, 0, 0, 0, 0, 0, 0, 0, 0, 0, 0]]]
def r0_6 : List Rs := [.d 27 (bl [91, 111, 181, 142, 97, 250, 71, 89, 57, 118, 125, 104, 164, 70, 249, 127, 27, 255, 2, 192, 229, 147, 90, 62, 168, 187, 81, 230, 81, 87, 131, 216])]
theorem mm0_6 : ob (runZ Tryz.prog T tabM0 100000 60 55 (mkAs T [110] x0_6) (fun _ => none) 0) (fun out => resC T false [.d 27] out) = some r0_6 := by kernel_rfl
def x0_7 : List V := [.l [bl [91, 111, 181, 142, 97, 250, 71, 89, 57, 118, 125, 104, 164, 70, 249, 127, 27, 255, 2, 192, 229, 147, 90, 62, 168, 187, 81, 230, 81, 87, 131, 216]]]
def r0_7 : List Rs := [.d 27 (bl [75, 231, 87, 14, 143, 112, 235, 9, 54, 64, 200, 70, 130, 116, 186, 117, 151, 69, 167, 170, 43, 125, 37, 171, 30, 4, 33, 178, 89, 132, 80, 20])]
theorem mm0_7 : ob (runZ Tryz.prog T tabM0 100000 60 55 (mkAs T [110] x0_7) (fun _ => none) 0) (fun out => resC T false [.d 27] out) = some r0_7 := by kernel_rfl
def x0_8 : List V := [.l [bl [0, 0, 0, 0, 5, 255, 175, 132, 180, 223, 70, 118, 53, 239, 142, 198, 68, 68, 87, 192, 226, 0, 188, 189, 184, 250, 48, 242, 15, 177, 159, 234, 32, 101, 91, 46, 0, 0, 0, 0, 0, 0, 0, 0, 0, 0, 0, 0, 0, 0, 0, 0, 0, 0, 0, 0, 0, 0, 0, 0, 0, 0, 0, 0, 0, 0, 0, 0, 1, 202, 154, 59, 254, 255, 127, 32, 0, 0, 0, 0]]]
def r0_8 : List Rs := [.d 27 (bl [176, 17, 220, 246, 90, 184, 1, 160, 4, 157, 152, 194, 202, 216, 221, 149, 184, 77, 245, 183, 127, 164, 62, 207, 8, 136, 168, 19, 111, 146, 36, 194])]
theorem mm0_8 : ob (runZ Tryz.prog T tabM0 100000 60 55 (mkAs T [110] x0_8) (fun _ => none) 0) (fun out => resC T false [.d 27] out) = some r0_8 := by kernel_rfl
def x0_9 : List V := [.l [bl [176, 17, 220, 246, 90, 184, 1, 160, 4, 157, 152, 194, 202, 216, 221, 149, 184, 77, 245, 183, 127, 164, 62, 207, 8, 136, 168, 19, 111, 146, 36, 194]]]
def r0_9 : List Rs := [.d 27 (bl [121, 28, 94, 199, 21, 188, 241, 161, 26, 239, 175, 9, 80, 247, 67, 171, 222, 151, 221, 208, 67, 241, 239, 123, 228, 70, 87, 255, 17, 109, 42, 124])]
theorem mm0_9 : ob (runZ Tryz.prog T tabM0 100000 60 55 (mkAs T [110] x0_9) (fun _ => none) 0) (fun out => resC T false [.d 27] out) = some r0_9 := by kernel_rfl
def x0_10 : List V := [.l [bl [0, 0, 0, 0, 5, 255, 175, 132, 180, 223, 70, 118, 53, 239, 142, 198, 68, 68, 87, 192, 226, 0, 188, 189, 184, 250, 48, 242, 15, 177, 159, 234, 32, 101, 91, 46, 0, 0, 0, 0, 0, 0, 0, 0, 0, 0, 0, 0, 0, 0, 0, 0, 0, 0, 0, 0, 0, 0, 0, 0, 0, 0, 0, 0, 0, 0, 0, 0, 0, 202, 154, 59, 255, 255, 127, 32, 0, 0, 0, 0]]]
def r0_10 : List Rs := [.d 27 (bl [236, 54, 117, 83, 180, 195, 106, 203, 101, 26, 221, 147, 178, 162, 192, 20, 8, 1, 68, 250, 127, 241, 218, 197, 238, 16, 58, 14, 103, 217, 50, 128])]
theorem mm0_10 : ob (runZ Tryz.prog T tabM0 100000 60 55 (mkAs T [110] x0_10) (fun _ => none) 0) (fun out => resC T false [.d 27] out) = some r0_10 := by kernel_rfl
def x0_11 : List V := [.l [bl [236, 54, 117, 83, 180, 195, 106, 203, 101, 26, 221, 147, 178, 162, 192, 20, 8, 1, 68, 250, 127, 241, 218, 197, 238, 16, 58, 14, 103, 217, 50, 128]]]
def r0_11 : List Rs := [.d 27 (bl [132, 219, 11, 161, 77, 44, 44, 153, 108, 24, 97, 61, 35, 87, 138, 67, 34, 152, 18, 49, 74, 42, 176, 131, 220, 188, 119, 197, 141, 189, 134, 207])]
theorem mm0_11 : ob (runZ Tryz.prog T tabM0 100000 60 55 (mkAs T [110] x0_11) (fun _ => none) 0) (fun out => resC T false [.d 27] out) = some r0_11 := by kernel_rfl
noncomputable def tb0 : List (List V × List Rs) := [(x0_0, r0_0), (x0_1, r0_1), (x0_2, r0_2), (x0_3, r0_3), (x0_4, r0_4), (x0_5, r0_5), (x0_6, r0_6), (x0_7, r0_7), (x0_8, r0_8), (x0_9, r0_9), (x0_10, r0_10), (x0_11, r0_11)]
theorem mem0 : SymOK Tryz.prog T 55 (pureS T false [110] (memF tb0)).dir := memo_ok (rk := [.d 27]) (runZ_ok (fu := 100000) (d := 60) follows T_ok tabM0_ok) (by kernel_rfl) ⟨mm0_0, mm0_1, mm0_2, mm0_3, mm0_4, mm0_5, mm0_6, mm0_7, mm0_8, mm0_9, mm0_10, mm0_11, trivial⟩
noncomputable def tabM1 : List (Nat × Sym) := (55, (pureS T false [110] (memF tb0)).dir) :: tabM0
theorem tabM1_ok : AllS Tryz.prog T tabM1 := ⟨mem0, tabM0_ok⟩
def x1_0 : List V := [.l [.i 1, .l [.l [.l [bl [0, 0, 0, 0, 0, 0, 0, 0, 0, 0, 0, 0, 0, 0, 0, 0, 0, 0, 0, 0, 0, 0, 0, 0, 0, 0, 0, 0, 0, 0, 0, 0], .i 4294967295], bl [98, 121, 110, 97, 109, 101], .i 0]], .l [.l [.i 0, .l [.i 106]]], .i 0]]
def r1_0 : List Rs := [.d 27 (bl [27, 228, 96, 192, 24, 233, 156, 161, 112, 96, 39, 161, 242, 105, 12, 172, 218, 72, 254, 74, 38, 146, 230, 38, 152, 188, 212, 98, 137, 78, 137, 234])]
theorem mm1_0 : ob (runZ Tryz.prog T tabM1 100000 60 23 (mkAs T [72] x1_0) (fun _ => none) 0) (fun out => resC T false [.d 27] out) = some r1_0 := by kernel_rfl
noncomputable def tb1 : List (List V × List Rs) := [(x1_0, r1_0)]
theorem mem1 : SymOK Tryz.prog T 23 (pureS T false [72] (memF tb1)).dir := memo_ok (rk := [.d 27]) (runZ_ok (fu := 100000) (d := 60) follows T_ok tabM1_ok) (by kernel_rfl) ⟨mm1_0, trivial⟩
noncomputable def tabM2 : List (Nat × Sym) := (23, (pureS T false [72] (memF tb1)).dir) :: tabM1
theorem tabM2_ok : AllS Tryz.prog T tabM2 := ⟨mem1, tabM1_ok⟩
def x2_0 : List V := [.l [.i 1, .l [.l [.l [bl [0, 0, 0, 0, 0, 0, 0, 0, 0, 0, 0, 0, 0, 0, 0, 0, 0, 0, 0, 0, 0, 0, 0, 0, 0, 0, 0, 0, 0, 0, 0, 0], .i 4294967295], bl [98, 121, 110, 97, 109, 101], .i 0]], .l [.l [.i 0, .l [.i 106]]], .i 0]]
def r2_0 : List Rs := [.d 27 (bl [27, 228, 96, 192, 24, 233, 156, 161, 112, 96, 39, 161, 242, 105, 12, 172, 218, 72, 254, 74, 38, 146, 230, 38, 152, 188, 212, 98, 137, 78, 137, 234])]
theorem mm2_0 : ob (runZ Tryz.prog T tabM2 100000 60 22 (mkAs T [72] x2_0) (fun _ => none) 0) (fun out => resC T false [.d 27] out) = some r2_0 := by kernel_rfl
noncomputable def tb2 : List (List V × List Rs) := [(x2_0, r2_0)]
theorem mem2 : SymOK Tryz.prog T 22 (pureS T false [72] (memF tb2)).dir := memo_ok (rk := [.d 27]) (runZ_ok (fu := 100000) (d := 60) follows T_ok tabM2_ok) (by kernel_rfl) ⟨mm2_0, trivial⟩
noncomputable def tabM3 : List (Nat × Sym) := (22, (pureS T false [72] (memF tb2)).dir) :: tabM2
theorem tabM3_ok : AllS Tryz.prog T tabM3 := ⟨mem2, tabM2_ok⟩
def x3_0 : List V := [.l [.i 1, bl [0, 0, 0, 0, 0, 0, 0, 0, 0, 0, 0, 0, 0, 0, 0, 0, 0, 0, 0, 0, 0, 0, 0, 0, 0, 0, 0, 0, 0, 0, 0, 0], bl [27, 228, 96, 192, 24, 233, 156, 161, 112, 96, 39, 161, 242, 105, 12, 172, 218, 72, 254, 74, 38, 146, 230, 38, 152, 188, 212, 98, 137, 78, 137, 234], .i 1000000000, .i 545259519, .i 0]]
def r3_0 : List Rs := [.d 27 (bl [5, 255, 175, 132, 180, 223, 70, 118, 53, 239, 142, 198, 68, 68, 87, 192, 226, 0, 188, 189, 184, 250, 48, 242, 15, 177, 159, 234, 32, 101, 91, 46])]
theorem mm3_0 : ob (runZ Tryz.prog T tabM3 100000 60 20 (mkAs T [29] x3_0) (fun _ => none) 0) (fun out => resC T false [.d 27] out) = some r3_0 := by kernel_rfl
def x3_1 : List V := [.l [.i 0, bl [5, 255, 175, 132, 180, 223, 70, 118, 53, 239, 142, 198, 68, 68, 87, 192, 226, 0, 188, 189, 184, 250, 48, 242, 15, 177, 159, 234, 32, 101, 91, 46], bl [0, 0, 0, 0, 0, 0, 0, 0, 0, 0, 0, 0, 0, 0, 0, 0, 0, 0, 0, 0, 0, 0, 0, 0, 0, 0, 0, 0, 0, 0, 0, 0], .i 1000000600, .i 545259519, .i 3]]
def r3_1 : List Rs := [.d 27 (bl [225, 128, 182, 162, 136, 197, 102, 11, 150, 105, 204, 108, 200, 33, 24, 212, 120, 121, 251, 98, 203, 118, 144, 1, 37, 109, 85, 46, 254, 186, 107, 62])]
theorem mm3_1 : ob (runZ Tryz.prog T tabM3 100000 60 20 (mkAs T [29] x3_1) (fun _ => none) 0) (fun out => resC T false [.d 27] out) = some r3_1 := by kernel_rfl
def x3_2 : List V := [.l [.i 0, bl [0, 0, 0, 0, 0, 0, 0, 0, 0, 0, 0, 0, 0, 0, 0, 0, 0, 0, 0, 0, 0, 0, 0, 0, 0, 0, 0, 0, 0, 0, 0, 0], bl [0, 0, 0, 0, 0, 0, 0, 0, 0, 0, 0, 0, 0, 0, 0, 0, 0, 0, 0, 0, 0, 0, 0, 0, 0, 0, 0, 0, 0, 0, 0, 0], .i 0, .i 0, .i 0]]
def r3_2 : List Rs := [.d 27 (bl [75, 231, 87, 14, 143, 112, 235, 9, 54, 64, 200, 70, 130, 116, 186, 117, 151, 69, 167, 170, 43, 125, 37, 171, 30, 4, 33, 178, 89, 132, 80, 20])]
theorem mm3_2 : ob (runZ Tryz.prog T tabM3 100000 60 20 (mkAs T [29] x3_2) (fun _ => none) 0) (fun out => resC T false [.d 27] out) = some r3_2 := by kernel_rfl
def x3_3 : List V := [.l [.i 0, bl [5, 255, 175, 132, 180, 223, 70, 118, 53, 239, 142, 198, 68, 68, 87, 192, 226, 0, 188, 189, 184, 250, 48, 242, 15, 177, 159, 234, 32, 101, 91, 46], bl [0, 0, 0, 0, 0, 0, 0, 0, 0, 0, 0, 0, 0, 0, 0, 0, 0, 0, 0, 0, 0, 0, 0, 0, 0, 0, 0, 0, 0, 0, 0, 0], .i 1000000001, .i 545259518, .i 0]]
def r3_3 : List Rs := [.d 27 (bl [121, 28, 94, 199, 21, 188, 241, 161, 26, 239, 175, 9, 80, 247, 67, 171, 222, 151, 221, 208, 67, 241, 239, 123, 228, 70, 87, 255, 17, 109, 42, 124])]
theorem mm3_3 : ob (runZ Tryz.prog T tabM3 100000 60 20 (mkAs T [29] x3_3) (fun _ => none) 0) (fun out => resC T false [.d 27] out) = some r3_3 := by kernel_rfl
def x3_4 : List V := [.l [.i 0, bl [5, 255, 175, 132, 180, 223, 70, 118, 53, 239, 142, 198, 68, 68, 87, 192, 226, 0, 188, 189, 184, 250, 48, 242, 15, 177, 159, 234, 32, 101, 91, 46], bl [0, 0, 0, 0, 0, 0, 0, 0, 0, 0, 0, 0, 0, 0, 0, 0, 0, 0, 0, 0, 0, 0, 0, 0, 0, 0, 0, 0, 0, 0, 0, 0], .i 1000000000, .i 545259519, .i 0]]
def r3_4 : List Rs := [.d 27 (bl [132, 219, 11, 161, 77, 44, 44, 153, 108, 24, 97, 61, 35, 87, 138, 67, 34, 152, 18, 49, 74, 42, 176, 131, 220, 188, 119, 197, 141, 189, 134, 207])]
theorem mm3_4 : ob (runZ Tryz.prog T tabM3 100000 60 20 (mkAs T [29] x3_4) (fun _ => none) 0) (fun out => resC T false [.d 27] out) = some r3_4 := by kernel_rfl
noncomputable def tb3 : List (List V × List Rs) := [(x3_0, r3_0), (x3_1, r3_1), (x3_2, r3_2), (x3_3, r3_3), (x3_4, r3_4)]
theorem mem3 : SymOK Tryz.prog T 20 (pureS T false [29] (memF tb3)).dir := memo_ok (rk := [.d 27]) (runZ_ok (fu := 100000) (d := 60) follows T_ok tabM3_ok) (by kernel_rfl) ⟨mm3_0, mm3_1, mm3_2, mm3_3, mm3_4, trivial⟩
noncomputable def tabM4 : List (Nat × Sym) := (20, (pureS T false [29] (memF tb3)).dir) :: tabM3
theorem tabM4_ok : AllS Tryz.prog T tabM4 := ⟨mem3, tabM3_ok⟩
def x4_0 : List V := [.l [.i 1, bl [0, 0, 0, 0, 0, 0, 0, 0, 0, 0, 0, 0, 0, 0, 0, 0, 0, 0, 0, 0, 0, 0, 0, 0, 0, 0, 0, 0, 0, 0, 0, 0], bl [27, 228, 96, 192, 24, 233, 156, 161, 112, 96, 39, 161, 242, 105, 12, 172, 218, 72, 254, 74, 38, 146, 230, 38, 152, 188, 212, 98, 137, 78, 137, 234], .i 1000000000, .i 545259519, .i 0]]
def r4_0 : List Rs := [.d 27 (bl [5, 255, 175, 132, 180, 223, 70, 118, 53, 239, 142, 198, 68, 68, 87, 192, 226, 0, 188, 189, 184, 250, 48, 242, 15, 177, 159, 234, 32, 101, 91, 46])]
theorem mm4_0 : ob (runZ Tryz.prog T tabM4 100000 60 19 (mkAs T [29] x4_0) (fun _ => none) 0) (fun out => resC T false [.d 27] out) = some r4_0 := by kernel_rfl
def x4_1 : List V := [.l [.i 0, bl [5, 255, 175, 132, 180, 223, 70, 118, 53, 239, 142, 198, 68, 68, 87, 192, 226, 0, 188, 189, 184, 250, 48, 242, 15, 177, 159, 234, 32, 101, 91, 46], bl [0, 0, 0, 0, 0, 0, 0, 0, 0, 0, 0, 0, 0, 0, 0, 0, 0, 0, 0, 0, 0, 0, 0, 0, 0, 0, 0, 0, 0, 0, 0, 0], .i 1000000600, .i 545259519, .i 0]]
def r4_1 : List Rs := [.d 27 (bl [217, 13, 201, 201, 34, 189, 239, 74, 198, 231, 37, 65, 6, 142, 71, 195, 196, 221, 172, 200, 0, 180, 152, 143, 251, 116, 177, 167, 172, 228, 179, 145])]
theorem mm4_1 : ob (runZ Tryz.prog T tabM4 100000 60 19 (mkAs T [29] x4_1) (fun _ => none) 0) (fun out => resC T false [.d 27] out) = some r4_1 := by kernel_rfl
def x4_2 : List V := [.l [.i 0, bl [5, 255, 175, 132, 180, 223, 70, 118, 53, 239, 142, 198, 68, 68, 87, 192, 226, 0, 188, 189, 184, 250, 48, 242, 15, 177, 159, 234, 32, 101, 91, 46], bl [0, 0, 0, 0, 0, 0, 0, 0, 0, 0, 0, 0, 0, 0, 0, 0, 0, 0, 0, 0, 0, 0, 0, 0, 0, 0, 0, 0, 0, 0, 0, 0], .i 1000000600, .i 545259519, .i 1]]
def r4_2 : List Rs := [.d 27 (bl [166, 155, 186, 110, 59, 7, 230, 216, 184, 48, 205, 235, 88, 49, 142, 252, 213, 49, 213, 24, 23, 210, 45, 46, 163, 33, 251, 2, 205, 0, 186, 164])]
theorem mm4_2 : ob (runZ Tryz.prog T tabM4 100000 60 19 (mkAs T [29] x4_2) (fun _ => none) 0) (fun out => resC T false [.d 27] out) = some r4_2 := by kernel_rfl
def x4_3 : List V := [.l [.i 0, bl [5, 255, 175, 132, 180, 223, 70, 118, 53, 239, 142, 198, 68, 68, 87, 192, 226, 0, 188, 189, 184, 250, 48, 242, 15, 177, 159, 234, 32, 101, 91, 46], bl [0, 0, 0, 0, 0, 0, 0, 0, 0, 0, 0, 0, 0, 0, 0, 0, 0, 0, 0, 0, 0, 0, 0, 0, 0, 0, 0, 0, 0, 0, 0, 0], .i 1000000600, .i 545259519, .i 2]]
def r4_3 : List Rs := [.d 27 (bl [109, 184, 91, 236, 222, 210, 33, 174, 57, 90, 208, 102, 60, 151, 89, 0, 117, 37, 146, 240, 82, 164, 53, 63, 254, 8, 14, 151, 89, 20, 11, 174])]
theorem mm4_3 : ob (runZ Tryz.prog T tabM4 100000 60 19 (mkAs T [29] x4_3) (fun _ => none) 0) (fun out => resC T false [.d 27] out) = some r4_3 := by kernel_rfl
def x4_4 : List V := [.l [.i 0, bl [5, 255, 175, 132, 180, 223, 70, 118, 53, 239, 142, 198, 68, 68, 87, 192, 226, 0, 188, 189, 184, 250, 48, 242, 15, 177, 159, 234, 32, 101, 91, 46], bl [0, 0, 0, 0, 0, 0, 0, 0, 0, 0, 0, 0, 0, 0, 0, 0, 0, 0, 0, 0, 0, 0, 0, 0, 0, 0, 0, 0, 0, 0, 0, 0], .i 1000000600, .i 545259519, .i 3]]
def r4_4 : List Rs := [.d 27 (bl [225, 128, 182, 162, 136, 197, 102, 11, 150, 105, 204, 108, 200, 33, 24, 212, 120, 121, 251, 98, 203, 118, 144, 1, 37, 109, 85, 46, 254, 186, 107, 62])]
theorem mm4_4 : ob (runZ Tryz.prog T tabM4 100000 60 19 (mkAs T [29] x4_4) (fun _ => none) 0) (fun out => resC T false [.d 27] out) = some r4_4 := by kernel_rfl
noncomputable def tb4 : List (List V × List Rs) := [(x4_0, r4_0), (x4_1, r4_1), (x4_2, r4_2), (x4_3, r4_3), (x4_4, r4_4)]
theorem mem4 : SymOK Tryz.prog T 19 (pureS T false [29] (memF tb4)).dir := memo_ok (rk := [.d 27]) (runZ_ok (fu := 100000) (d := 60) follows T_ok tabM4_ok) (by kernel_rfl) ⟨mm4_0, mm4_1, mm4_2, mm4_3, mm4_4, trivial⟩
noncomputable def tabM5 : List (Nat × Sym) := (19, (pureS T false [29] (memF tb4)).dir) :: tabM4
theorem tabM5_ok : AllS Tryz.prog T tabM5 := ⟨mem4, tabM4_ok⟩
def x5_0 : List V := []
def r5_0 : List Rs := [.r 40 (bl [0, 0, 0, 0, 0, 0, 0, 0, 0, 0, 0, 0, 0, 0, 65280, 32767, 0, 0, 0, 0, 0, 0, 0, 0, 0, 0, 0, 0, 0, 0, 0] : V).els false]
theorem mm5_0 : ob (runZ Tryz.prog T tabM5 100000 60 76 (mkAs T [] x5_0) (fun _ => none) 0) (fun out => resC T false [.r 40] out) = some r5_0 := by kernel_rfl
noncomputable def tb5 : List (List V × List Rs) := [(x5_0, r5_0)]
theorem mem5 : SymOK Tryz.prog T 76 (pureS T false [] (memF tb5)).dir := memo_ok (rk := [.r 40]) (runZ_ok (fu := 100000) (d := 60) follows T_ok tabM5_ok) (by kernel_rfl) ⟨mm5_0, trivial⟩
noncomputable def tabM6 : List (Nat × Sym) := (76, (pureS T false [] (memF tb5)).dir) :: tabM5
theorem tabM6_ok : AllS Tryz.prog T tabM6 := ⟨mem5, tabM5_ok⟩
def x6_0 : List V := [.i 545259519]
def r6_0 : List Rs := [.r 40 (bl [0, 0, 0, 0, 0, 0, 0, 0, 0, 0, 0, 0, 0, 0, 65280, 32767, 0, 0, 0, 0, 0, 0, 0, 0, 0, 0, 0, 0, 0, 0, 0] : V).els false, .d 3 (.i 0)]
theorem mm6_0 : ob (runZ Tryz.prog T tabM6 100000 60 47 (mkAs T [25] x6_0) (fun _ => none) 0) (fun out => resC T false [.r 40, .d 3] out) = some r6_0 := by kernel_rfl
noncomputable def tb6 : List (List V × List Rs) := [(x6_0, r6_0)]
theorem mem6 : SymOK Tryz.prog T 47 (pureS T false [25] (memF tb6)).dir := memo_ok (rk := [.r 40, .d 3]) (runZ_ok (fu := 100000) (d := 60) follows T_ok tabM6_ok) (by kernel_rfl) ⟨mm6_0, trivial⟩
noncomputable def tabM7 : List (Nat × Sym) := (47, (pureS T false [25] (memF tb6)).dir) :: tabM6
theorem tabM7_ok : AllS Tryz.prog T tabM7 := ⟨mem6, tabM6_ok⟩
def x7_0 : List V := [.i 545259519]
def r7_0 : List Rs := [.r 40 (bl [2, 0, 0, 0, 0, 0, 0, 0, 0, 0, 0, 0, 0, 0, 0, 0, 0] : V).els false]
theorem mm7_0 : ob (runZ Tryz.prog T tabM7 100000 60 29 (mkAs T [25] x7_0) (fun _ => none) 0) (fun out => resC T false [.r 40] out) = some r7_0 := by kernel_rfl
noncomputable def tb7 : List (List V × List Rs) := [(x7_0, r7_0)]
theorem mem7 : SymOK Tryz.prog T 29 (pureS T false [25] (memF tb7)).dir := memo_ok (rk := [.r 40]) (runZ_ok (fu := 100000) (d := 60) follows T_ok tabM7_ok) (by kernel_rfl) ⟨mm7_0, trivial⟩
noncomputable def tabM8 : List (Nat × Sym) := (29, (pureS T false [25] (memF tb7)).dir) :: tabM7
theorem tabM8_ok : AllS Tryz.prog T tabM8 := ⟨mem7, tabM7_ok⟩
def x8_0 : List V := [.l [.i 0, bl [5, 255, 175, 132, 180, 223, 70, 118, 53, 239, 142, 198, 68, 68, 87, 192, 226, 0, 188, 189, 184, 250, 48, 242, 15, 177, 159, 234, 32, 101, 91, 46], bl [0, 0, 0, 0, 0, 0, 0, 0, 0, 0, 0, 0, 0, 0, 0, 0, 0, 0, 0, 0, 0, 0, 0, 0, 0, 0, 0, 0, 0, 0, 0, 0], .i 1000000600, .i 545259519, .i 0]]
def r8_0 : List Rs := [.d 4 (.b false)]
theorem mm8_0 : ob (runZ Tryz.prog T tabM8 100000 60 30 (mkAs T [29] x8_0) (fun _ => none) 0) (fun out => resC T false [.d 4] out) = some r8_0 := by kernel_rfl
def x8_1 : List V := [.l [.i 0, bl [5, 255, 175, 132, 180, 223, 70, 118, 53, 239, 142, 198, 68, 68, 87, 192, 226, 0, 188, 189, 184, 250, 48, 242, 15, 177, 159, 234, 32, 101, 91, 46], bl [0, 0, 0, 0, 0, 0, 0, 0, 0, 0, 0, 0, 0, 0, 0, 0, 0, 0, 0, 0, 0, 0, 0, 0, 0, 0, 0, 0, 0, 0, 0, 0], .i 1000000600, .i 545259519, .i 1]]
def r8_1 : List Rs := [.d 4 (.b false)]
theorem mm8_1 : ob (runZ Tryz.prog T tabM8 100000 60 30 (mkAs T [29] x8_1) (fun _ => none) 0) (fun out => resC T false [.d 4] out) = some r8_1 := by kernel_rfl
def x8_2 : List V := [.l [.i 0, bl [5, 255, 175, 132, 180, 223, 70, 118, 53, 239, 142, 198, 68, 68, 87, 192, 226, 0, 188, 189, 184, 250, 48, 242, 15, 177, 159, 234, 32, 101, 91, 46], bl [0, 0, 0, 0, 0, 0, 0, 0, 0, 0, 0, 0, 0, 0, 0, 0, 0, 0, 0, 0, 0, 0, 0, 0, 0, 0, 0, 0, 0, 0, 0, 0], .i 1000000600, .i 545259519, .i 2]]
def r8_2 : List Rs := [.d 4 (.b false)]
theorem mm8_2 : ob (runZ Tryz.prog T tabM8 100000 60 30 (mkAs T [29] x8_2) (fun _ => none) 0) (fun out => resC T false [.d 4] out) = some r8_2 := by kernel_rfl
def x8_3 : List V := [.l [.i 0, bl [5, 255, 175, 132, 180, 223, 70, 118, 53, 239, 142, 198, 68, 68, 87, 192, 226, 0, 188, 189, 184, 250, 48, 242, 15, 177, 159, 234, 32, 101, 91, 46], bl [0, 0, 0, 0, 0, 0, 0, 0, 0, 0, 0, 0, 0, 0, 0, 0, 0, 0, 0, 0, 0, 0, 0, 0, 0, 0, 0, 0, 0, 0, 0, 0], .i 1000000600, .i 545259519, .i 3]]
def r8_3 : List Rs := [.d 4 (.b true)]
theorem mm8_3 : ob (runZ Tryz.prog T tabM8 100000 60 30 (mkAs T [29] x8_3) (fun _ => none) 0) (fun out => resC T false [.d 4] out) = some r8_3 := by kernel_rfl
noncomputable def tb8 : List (List V × List Rs) := [(x8_0, r8_0), (x8_1, r8_1), (x8_2, r8_2), (x8_3, r8_3)]
theorem mem8 : SymOK Tryz.prog T 30 (pureS T false [29] (memF tb8)).dir := memo_ok (rk := [.d 4]) (runZ_ok (fu := 100000) (d := 60) follows T_ok tabM8_ok) (by kernel_rfl) ⟨mm8_0, mm8_1, mm8_2, mm8_3, trivial⟩
noncomputable def tabM9 : List (Nat × Sym) := (30, (pureS T false [29] (memF tb8)).dir) :: tabM8
theorem tabM9_ok : AllS Tryz.prog T tabM9 := ⟨mem8, tabM8_ok⟩
def x9_0 : List V := [.i 545259519]
def r9_0 : List Rs := [.d 42 (bl [0, 0, 0, 9223370937343148032]), .d 35 (.i 0)]
theorem mm9_0 : ob (runZ Tryz.prog T tabM9 100000 60 36 (mkAs T [25] x9_0) (fun _ => none) 0) (fun out => resC T false [.d 42, .d 35] out) = some r9_0 := by kernel_rfl
noncomputable def tb9 : List (List V × List Rs) := [(x9_0, r9_0)]
theorem mem9 : SymOK Tryz.prog T 36 (pureS T false [25] (memF tb9)).dir := memo_ok (rk := [.d 42, .d 35]) (runZ_ok (fu := 100000) (d := 60) follows T_ok tabM9_ok) (by kernel_rfl) ⟨mm9_0, trivial⟩
noncomputable def tabM10 : List (Nat × Sym) := (36, (pureS T false [25] (memF tb9)).dir) :: tabM9
theorem tabM10_ok : AllS Tryz.prog T tabM10 := ⟨mem9, tabM9_ok⟩
def x10_0 : List V := [.i 545259519]
def r10_0 : List Rs := [.d 42 (bl [2, 0, 0, 0])]
theorem mm10_0 : ob (runZ Tryz.prog T tabM10 100000 60 21 (mkAs T [25] x10_0) (fun _ => none) 0) (fun out => resC T false [.d 42] out) = some r10_0 := by kernel_rfl
noncomputable def tb10 : List (List V × List Rs) := [(x10_0, r10_0)]
theorem mem10 : SymOK Tryz.prog T 21 (pureS T false [25] (memF tb10)).dir := memo_ok (rk := [.d 42]) (runZ_ok (fu := 100000) (d := 60) follows T_ok tabM10_ok) (by kernel_rfl) ⟨mm10_0, trivial⟩
noncomputable def tabM11 : List (Nat × Sym) := (21, (pureS T false [25] (memF tb10)).dir) :: tabM10
theorem tabM11_ok : AllS Tryz.prog T tabM11 := ⟨mem10, tabM10_ok⟩
def x11_0 : List V := [.l [.i 0, bl [5, 255, 175, 132, 180, 223, 70, 118, 53, 239, 142, 198, 68, 68, 87, 192, 226, 0, 188, 189, 184, 250, 48, 242, 15, 177, 159, 234, 32, 101, 91, 46], bl [0, 0, 0, 0, 0, 0, 0, 0, 0, 0, 0, 0, 0, 0, 0, 0, 0, 0, 0, 0, 0, 0, 0, 0, 0, 0, 0, 0, 0, 0, 0, 0], .i 1000000600, .i 545259519, .i 3]]
def r11_0 : List Rs := [.d 4 (.b true)]
theorem mm11_0 : ob (runZ Tryz.prog T tabM11 100000 60 26 (mkAs T [29] x11_0) (fun _ => none) 0) (fun out => resC T false [.d 4] out) = some r11_0 := by kernel_rfl
noncomputable def tb11 : List (List V × List Rs) := [(x11_0, r11_0)]
theorem mem11 : SymOK Tryz.prog T 26 (pureS T false [29] (memF tb11)).dir := memo_ok (rk := [.d 4]) (runZ_ok (fu := 100000) (d := 60) follows T_ok tabM11_ok) (by kernel_rfl) ⟨mm11_0, trivial⟩
noncomputable def tabM12 : List (Nat × Sym) := (26, (pureS T false [29] (memF tb11)).dir) :: tabM11
theorem tabM12_ok : AllS Tryz.prog T tabM12 := ⟨mem11, tabM11_ok⟩
def x12_0 : List V := [.l [.i 1000000000]]
def r12_0 : List Rs := [.d 25 (.i 1000000000)]
theorem mm12_0 : ob (runZ Tryz.prog T tabM12 100000 60 43 (mkAs T [95] x12_0) (fun _ => none) 0) (fun out => resC T false [.d 25] out) = some r12_0 := by kernel_rfl
noncomputable def tb12 : List (List V × List Rs) := [(x12_0, r12_0)]
theorem mem12 : SymOK Tryz.prog T 43 (pureS T false [95] (memF tb12)).dir := memo_ok (rk := [.d 25]) (runZ_ok (fu := 100000) (d := 60) follows T_ok tabM12_ok) (by kernel_rfl) ⟨mm12_0, trivial⟩
noncomputable def tabM13 : List (Nat × Sym) := (43, (pureS T false [95] (memF tb12)).dir) :: tabM12
theorem tabM13_ok : AllS Tryz.prog T tabM13 := ⟨mem12, tabM12_ok⟩
def x13_0 : List V := []
def r13_0 : List Rs := [.d 32 (.l [.l [.i 1, bl [0, 0, 0, 0, 0, 0, 0, 0, 0, 0, 0, 0, 0, 0, 0, 0, 0, 0, 0, 0, 0, 0, 0, 0, 0, 0, 0, 0, 0, 0, 0, 0], bl [27, 228, 96, 192, 24, 233, 156, 161, 112, 96, 39, 161, 242, 105, 12, 172, 218, 72, 254, 74, 38, 146, 230, 38, 152, 188, 212, 98, 137, 78, 137, 234], .i 1000000000, .i 545259519, .i 0], .l [.l [.i 1, .l [.l [.l [bl [0, 0, 0, 0, 0, 0, 0, 0, 0, 0, 0, 0, 0, 0, 0, 0, 0, 0, 0, 0, 0, 0, 0, 0, 0, 0, 0, 0, 0, 0, 0, 0], .i 4294967295], bl [98, 121, 110, 97, 109, 101], .i 0]], .l [.l [.i 0, .l [.i 106]]], .i 0]]])]
theorem mm13_0 : ob (runZ Tryz.prog T tabM13 100000 60 7 (mkAs T [] x13_0) (fun _ => none) 0) (fun out => resC T true [.d 32] out) = some r13_0 := by kernel_rfl
noncomputable def tb13 : List (List V × List Rs) := [(x13_0, r13_0)]
theorem mem13 : SymOK Tryz.prog T 7 (pureS T true [] (memF tb13)).dir := memo_ok (rk := [.d 32]) (runZ_ok (fu := 100000) (d := 60) follows T_ok tabM13_ok) (by kernel_rfl) ⟨mm13_0, trivial⟩
noncomputable def tabM14 : List (Nat × Sym) := (7, (pureS T true [] (memF tb13)).dir) :: tabM13
theorem tabM14_ok : AllS Tryz.prog T tabM14 := ⟨mem13, tabM13_ok⟩
def x14_0 : List V := []
def r14_0 : List Rs := [.d 32 (.l [.l [.i 1, bl [0, 0, 0, 0, 0, 0, 0, 0, 0, 0, 0, 0, 0, 0, 0, 0, 0, 0, 0, 0, 0, 0, 0, 0, 0, 0, 0, 0, 0, 0, 0, 0], bl [27, 228, 96, 192, 24, 233, 156, 161, 112, 96, 39, 161, 242, 105, 12, 172, 218, 72, 254, 74, 38, 146, 230, 38, 152, 188, 212, 98, 137, 78, 137, 234], .i 1000000000, .i 545259519, .i 0], .l [.l [.i 1, .l [.l [.l [bl [0, 0, 0, 0, 0, 0, 0, 0, 0, 0, 0, 0, 0, 0, 0, 0, 0, 0, 0, 0, 0, 0, 0, 0, 0, 0, 0, 0, 0, 0, 0, 0], .i 4294967295], bl [98, 121, 110, 97, 109, 101], .i 0]], .l [.l [.i 0, .l [.i 106]]], .i 0]]])]
theorem mm14_0 : ob (runZ Tryz.prog T tabM14 100000 60 6 (mkAs T [] x14_0) (fun _ => none) 0) (fun out => resC T true [.d 32] out) = some r14_0 := by kernel_rfl
noncomputable def tb14 : List (List V × List Rs) := [(x14_0, r14_0)]
theorem mem14 : SymOK Tryz.prog T 6 (pureS T true [] (memF tb14)).dir := memo_ok (rk := [.d 32]) (runZ_ok (fu := 100000) (d := 60) follows T_ok tabM14_ok) (by kernel_rfl) ⟨mm14_0, trivial⟩
noncomputable def tabM15 : List (Nat × Sym) := (6, (pureS T true [] (memF tb14)).dir) :: tabM14
theorem tabM15_ok : AllS Tryz.prog T tabM15 := ⟨mem14, tabM14_ok⟩
noncomputable abbrev tabZ : List (Nat × Sym) := tabM15
theorem tabZ_ok : AllS Tryz.prog T tabZ := tabM15_ok
theorem law_run : ansB true (runZ Tryz.prog T tabZ 100000 60 3 [] (fun _ => none) 0) = true := by kernel_rfl
end Go.Proofs.YtckicmpddhjliaaGreat
end

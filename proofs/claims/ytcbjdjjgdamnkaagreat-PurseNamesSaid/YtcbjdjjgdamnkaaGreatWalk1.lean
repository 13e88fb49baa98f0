/- What functions compute, and the law run. -/
import Derived.Test.YtcbjdjjgdamnkaaGreatTy
import Derived.Test.YtcbjdjjgdamnkaaGreatVm9
set_option linter.constructorNameAsVariable false
set_option linter.unusedVariables false
set_option linter.unusedSimpArgs false
noncomputable section
namespace Go.Proofs.YtcbjdjjgdamnkaaGreat
open Go.Vm
set_option maxRecDepth 100000
set_option linter.unusedVariables false
noncomputable def tab1 : List (Nat × SymC) := []
theorem tab1_ok : TabOK Tryz.prog T tab1 := tabOK_nil
noncomputable def K1 : KC := runAC Tryz.prog T tab1 false FU 4
theorem hK1 : K1.nat := runAC_nat tab1_ok 4
theorem hS1 : ∀ f, SymOK Tryz.prog T f (K1 f).dir := runAC_ok follows T_ok tab1_ok 4
def tmSpA : PSpA → Vm.St
  | .m x z i w => ⟨[(0, .v 38 x), (2, .p 0 119 []), (3, .p 1 119 []), (8, .i .i64 i)], (.n (some (.box 119 (.v 119 z) false)) (.n (some (.box 119 (.v 119 w) false)) .e .e) .e), [], 2⟩
def ekSpA (R : Type) (kx : Exit → Vm.St → Option R) : QSpA → Option R
  | .o x z i w => kx (.exit 0) ⟨[(0, .v 38 x), (2, .p 0 119 []), (3, .p 1 119 []), (8, .i .i64 i)], (.n (some (.box 119 (.v 119 z) false)) (.n (some (.box 119 (.v 119 w) false)) .e .e) .e), [], 16⟩
def extSpA : Vm.St → Option PSpA
  | ⟨[(0, .v 38 x), (2, .p 0 119 []), (3, .p 1 119 []), (8, .i .i64 i)], (.n (some (.box 119 (.v 119 z) false)) (.n (some (.box 119 (.v 119 w) false)) .e .e) .e), [], 2⟩ => some (.m x z i w)
  | _ => none
theorem extSpA_ok (τ : Vm.St) (x : PSpA) (h : extSpA τ = some x) : τ = tmSpA x := by
  unfold extSpA at h
  split at h <;> first | (cases h; rfl) | cases h
theorem stepSpA (R : Type) (of : Nat → Option Ob) (x : PSpA) (K : Vm.St → Option R) (kx : Exit → Vm.St → Option R) : execC T K1 (fun _ => none) false FU (ntOf Tryz.prog 73) of R (lp (codeOf Tryz.prog 73) 0) (tmSpA x) (sortN 0 [0, 2, 3, 8] 16 K kx) = BSpA R x (fun x' => K (tmSpA x')) (ekSpA R kx) := by
  cases x
  · kernel_rfl
noncomputable def HSpA : LS := loopH T K1 (fun _ => none) (ntOf Tryz.prog 73) (lp (codeOf Tryz.prog 73) 0) 0 [0, 2, 3, 8] 16 extSpA BSpA ekSpA
theorem HSpA_ok : LoopTk Tryz.prog T (ntOf Tryz.prog 73) 0 (lp (codeOf Tryz.prog 73) 0) HSpA :=
  loopH_ok follows T_ok hK1 hS1 loNat_none (loopsOK_none _) tmSpA extSpA_ok stepSpA
def tmSpB : PSpB → Vm.St
  | .m z i w => ⟨[(2, .p 0 119 []), (3, .p 1 119 []), (5, .i .i64 i)], (.n (some (.box 119 (.v 119 z) false)) (.n (some (.box 119 (.v 119 w) false)) .e .e) .e), [], 2⟩
def ekSpB (R : Type) (kx : Exit → Vm.St → Option R) : QSpB → Option R
  | .o z i w => kx (.exit 2) ⟨[(2, .p 0 119 []), (3, .p 1 119 []), (5, .i .i64 i)], (.n (some (.box 119 (.v 119 z) false)) (.n (some (.box 119 (.v 119 w) false)) .e .e) .e), [], 16⟩
def extSpB : Vm.St → Option PSpB
  | ⟨[(2, .p 0 119 []), (3, .p 1 119 []), (5, .i .i64 i)], (.n (some (.box 119 (.v 119 z) false)) (.n (some (.box 119 (.v 119 w) false)) .e .e) .e), [], 2⟩ => some (.m z i w)
  | _ => none
theorem extSpB_ok (τ : Vm.St) (x : PSpB) (h : extSpB τ = some x) : τ = tmSpB x := by
  unfold extSpB at h
  split at h <;> first | (cases h; rfl) | cases h
theorem stepSpB (R : Type) (of : Nat → Option Ob) (x : PSpB) (K : Vm.St → Option R) (kx : Exit → Vm.St → Option R) : execC T K1 (fun _ => none) false FU (ntOf Tryz.prog 73) of R (lp (codeOf Tryz.prog 73) 1) (tmSpB x) (sortN 0 [2, 3, 5] 16 K kx) = BSpB R x (fun x' => K (tmSpB x')) (ekSpB R kx) := by
  cases x
  · kernel_rfl
noncomputable def HSpB : LS := loopH T K1 (fun _ => none) (ntOf Tryz.prog 73) (lp (codeOf Tryz.prog 73) 1) 0 [2, 3, 5] 16 extSpB BSpB ekSpB
theorem HSpB_ok : LoopTk Tryz.prog T (ntOf Tryz.prog 73) 0 (lp (codeOf Tryz.prog 73) 1) HSpB :=
  loopH_ok follows T_ok hK1 hS1 loNat_none (loopsOK_none _) tmSpB extSpB_ok stepSpB
noncomputable def LoSp : Nat → LC := atN 0 [(3, HSpA), (8, HSpB)]
theorem LoSp_ok : LoopsC Tryz.prog T 73 LoSp := loopsC_at 0 (List.forall_mem_cons.2 ⟨HSpA_ok.1, List.forall_mem_cons.2 ⟨HSpB_ok.1, fun _ h => by cases h⟩⟩) 2 (by kernel_rfl) ⟨⟨trivial, loI (s0 := HSpA) (by kernel_rfl) HSpA_ok⟩, loI (s0 := HSpB) (by kernel_rfl) HSpB_ok⟩
noncomputable def Gsp : FC := fun R xs k => match xs with
  | [x] => lpC (BSpA R) (hid FU) (.m x z64 0 z64) (fun | .o _ z _ w => lpC (BSpB R) (hid FU) (.m z 16 w) (fun | .o _ _ w => k [.d 119 w]))
  | _ => none
theorem run_sp (R : Type) (x : V) (k : List Rs → Option R) : runFC Tryz.prog T K1 LoSp false FU 73 R (mkAs T [38] [x]) (fun _ => none) 0 (fun out => ob (resC T false [.d 119] out) k) = Gsp R [x] k := by kernel_rfl
noncomputable def tab2 : List (Nat × SymC) := (73, pureS T false [38] (Fsp 119)) :: tab1
theorem tab2_ok : TabOK Tryz.prog T tab2 := by
  refine pure_run (sh := false) (rk := [.d 119]) (d := 4) (fu := FU) (Lo := LoSp) (G := Gsp) follows T_ok tab1_ok (Fsp_nat 119) (by kernel_rfl) LoSp_ok (fun R xs k htv => ?_) (fun xs rs htv hrs => ?_)
  · match xs, htv.len with
    | [x], _ => exact run_sp R x k
  · match xs, htv, htv.len with
    | [x], htv, _ =>
      obtain ⟨e, cs, hx⟩ := htv.head
      obtain ⟨bs, h1, h2⟩ := tv_slice (T := T) (el := 5) (kd := .u8) (by kernel_rfl) (by kernel_rfl) rfl hx
      simp only [Fsp] at hrs
      cases hl : Nat.ble 64 x.els.length with
      | false => rw [hl] at hrs; cases hrs
      | true =>
        rw [hl] at hrs
        have hl := Nat.le_of_ble_eq_true hl
        rw [h1, List.length_map] at hl
        exact (spread_law h1 (lt256 h2) hl HID (fun w => some [Rs.d 119 w])).trans hrs
noncomputable def K2 : KC := runAC Tryz.prog T tab2 false FU 4
theorem hK2 : K2.nat := runAC_nat tab2_ok 4
theorem hS2 : ∀ f, SymOK Tryz.prog T f (K2 f).dir := runAC_ok follows T_ok tab2_ok 4
def tmMxA : PMxA → Vm.St
  | .m s z w k x i => ⟨[(2, .p 0 110 []), (4, .p 1 110 []), (5, .p 3 119 []), (6, .p 4 119 []), (7, .p 5 110 []), (18, .i .i64 i)], (.n (some (.box 110 (.v 110 s) false)) (.n (some (.box 110 (.v 110 z) false)) (.n (some (.box 119 (.v 119 w) false)) .e .e) (.n (some (.box 110 (.v 110 x) false)) .e .e)) (.n none (.n (some (.box 119 (.v 119 k) false)) .e .e) .e)), [], 6⟩
def ekMxA (R : Type) (kx : Exit → Vm.St → Option R) : QMxA → Option R
  | .o s z w k x i => kx (.exit 0) ⟨[(2, .p 0 110 []), (4, .p 1 110 []), (5, .p 3 119 []), (6, .p 4 119 []), (7, .p 5 110 []), (18, .i .i64 i)], (.n (some (.box 110 (.v 110 s) false)) (.n (some (.box 110 (.v 110 z) false)) (.n (some (.box 119 (.v 119 w) false)) .e .e) (.n (some (.box 110 (.v 110 x) false)) .e .e)) (.n none (.n (some (.box 119 (.v 119 k) false)) .e .e) .e)), [], 16⟩
def extMxA : Vm.St → Option PMxA
  | ⟨[(2, .p 0 110 []), (4, .p 1 110 []), (5, .p 3 119 []), (6, .p 4 119 []), (7, .p 5 110 []), (18, .i .i64 i)], (.n (some (.box 110 (.v 110 s) false)) (.n (some (.box 110 (.v 110 z) false)) (.n (some (.box 119 (.v 119 w) false)) .e .e) (.n (some (.box 110 (.v 110 x) false)) .e .e)) (.n none (.n (some (.box 119 (.v 119 k) false)) .e .e) .e)), [], 6⟩ => some (.m s z w k x i)
  | _ => none
theorem extMxA_ok (τ : Vm.St) (x : PMxA) (h : extMxA τ = some x) : τ = tmMxA x := by
  unfold extMxA at h
  split at h <;> first | (cases h; rfl) | cases h
theorem stepMxA (R : Type) (of : Nat → Option Ob) (x : PMxA) (K : Vm.St → Option R) (kx : Exit → Vm.St → Option R) : execC T K2 (fun _ => none) false FU (ntOf Tryz.prog 66) of R (lp (codeOf Tryz.prog 66) 0) (tmMxA x) (sortN 0 [2, 4, 5, 6, 7, 18] 16 K kx) = BMxA R x (fun x' => K (tmMxA x')) (ekMxA R kx) := by
  cases x
  · kernel_rfl
noncomputable def HMxA : LS := loopH T K2 (fun _ => none) (ntOf Tryz.prog 66) (lp (codeOf Tryz.prog 66) 0) 0 [2, 4, 5, 6, 7, 18] 16 extMxA BMxA ekMxA
theorem HMxA_ok : LoopTk Tryz.prog T (ntOf Tryz.prog 66) 0 (lp (codeOf Tryz.prog 66) 0) HMxA :=
  loopH_ok follows T_ok hK2 hS2 loNat_none (loopsOK_none _) tmMxA extMxA_ok stepMxA
def tmMxB : PMxB → Vm.St
  | .m s z x i => ⟨[(2, .p 0 110 []), (4, .p 1 110 []), (7, .p 5 110 []), (98, .i .i64 i)], (.n (some (.box 110 (.v 110 s) false)) (.n (some (.box 110 (.v 110 z) false)) .e (.n (some (.box 110 (.v 110 x) false)) .e .e)) .e), [], 6⟩
def ekMxB (R : Type) (kx : Exit → Vm.St → Option R) : QMxB → Option R
  | .o s z x i => kx (.exit 2) ⟨[(2, .p 0 110 []), (4, .p 1 110 []), (7, .p 5 110 []), (98, .i .i64 i)], (.n (some (.box 110 (.v 110 s) false)) (.n (some (.box 110 (.v 110 z) false)) .e (.n (some (.box 110 (.v 110 x) false)) .e .e)) .e), [], 16⟩
def extMxB : Vm.St → Option PMxB
  | ⟨[(2, .p 0 110 []), (4, .p 1 110 []), (7, .p 5 110 []), (98, .i .i64 i)], (.n (some (.box 110 (.v 110 s) false)) (.n (some (.box 110 (.v 110 z) false)) .e (.n (some (.box 110 (.v 110 x) false)) .e .e)) .e), [], 6⟩ => some (.m s z x i)
  | _ => none
theorem extMxB_ok (τ : Vm.St) (x : PMxB) (h : extMxB τ = some x) : τ = tmMxB x := by
  unfold extMxB at h
  split at h <;> first | (cases h; rfl) | cases h
theorem stepMxB (R : Type) (of : Nat → Option Ob) (x : PMxB) (K : Vm.St → Option R) (kx : Exit → Vm.St → Option R) : execC T K2 (fun _ => none) false FU (ntOf Tryz.prog 66) of R (lp (codeOf Tryz.prog 66) 1) (tmMxB x) (sortN 0 [2, 4, 7, 98] 16 K kx) = BMxB R x (fun x' => K (tmMxB x')) (ekMxB R kx) := by
  cases x
  · kernel_rfl
noncomputable def HMxB : LS := loopH T K2 (fun _ => none) (ntOf Tryz.prog 66) (lp (codeOf Tryz.prog 66) 1) 0 [2, 4, 7, 98] 16 extMxB BMxB ekMxB
theorem HMxB_ok : LoopTk Tryz.prog T (ntOf Tryz.prog 66) 0 (lp (codeOf Tryz.prog 66) 1) HMxB :=
  loopH_ok follows T_ok hK2 hS2 loNat_none (loopsOK_none _) tmMxB extMxB_ok stepMxB
noncomputable def LoMx : Nat → LC := atN 0 [(3, HMxA), (11, HMxB)]
theorem LoMx_ok : LoopsC Tryz.prog T 66 LoMx := loopsC_at 0 (List.forall_mem_cons.2 ⟨HMxA_ok.1, List.forall_mem_cons.2 ⟨HMxB_ok.1, fun _ h => by cases h⟩⟩) 2 (by kernel_rfl) ⟨⟨trivial, loI (s0 := HMxA) (by kernel_rfl) HMxA_ok⟩, loI (s0 := HMxB) (by kernel_rfl) HMxB_ok⟩
noncomputable def Gmx : FC := fun R xs k => match xs with
  | [s, b] => bif Nat.ble 64 b.els.length then lpC (BMxA R) (hid FU) (.m s z8 (spW b) keysV s 0) (fun | .o s z _ _ x _ => lpC (BMxB R) (hid FU) (.m s z x 0) (fun | .o s _ _ _ => k [.d 110 s])) else none
  | _ => none
theorem run_mx (R : Type) (s b : V) (k : List Rs → Option R) : runFC Tryz.prog T K2 LoMx false FU 66 R (mkAs T [110, 38] [s, b]) (fun _ => none) 0 (fun out => ob (resC T false [.d 110] out) k) = Gmx R [s, b] k := by kernel_rfl
noncomputable def tab3 : List (Nat × SymC) := (66, pureS T false [110, 38] (Fmx 110)) :: tab2
theorem tab3_ok : TabOK Tryz.prog T tab3 := by
  refine pure_run (sh := false) (rk := [.d 110]) (d := 4) (fu := FU) (Lo := LoMx) (G := Gmx) follows T_ok tab2_ok (Fmx_nat 110) (by kernel_rfl) LoMx_ok (fun R xs k htv => ?_) (fun xs rs htv hrs => ?_)
  · match xs, htv.len with
    | [s, b], _ => exact run_mx R s b k
  · match xs, htv, htv.len with
    | [s, b], htv, _ =>
      obtain ⟨e, cs, hs⟩ := htv.head
      obtain ⟨e2, cs2, hx⟩ := htv.tail.head
      obtain ⟨bs, h1, h2⟩ := tv_slice (T := T) (el := 5) (kd := .u8) (by kernel_rfl) (by kernel_rfl) rfl hx
      obtain ⟨ns, rfl, n1, n2⟩ := tv_arr (T := T) (n := 8) (el := 27) (kd := .u32) (by kernel_rfl) (by kernel_rfl) rfl hs
      obtain ⟨s8, hs8, hok⟩ := stV_of n1 n2
      rw [hs8] at hrs ⊢
      simp only [Fmx] at hrs
      cases hl : Nat.ble 64 b.els.length with
      | false => rw [hl] at hrs; cases hrs
      | true =>
        rw [hl] at hrs
        simp only [Gmx, hl, cond_true]
        have hl := Nat.le_of_ble_eq_true hl
        rw [h1, List.length_map] at hl
        exact (mix_law hok h1 (lt256 h2) hl HID (fun w => some [Rs.d 110 w])).trans hrs
noncomputable def K3 : KC := runAC Tryz.prog T tab3 false FU 4
theorem hK3 : K3.nat := runAC_nat tab3_ok 4
theorem hS3 : ∀ f, SymOK Tryz.prog T f (K3 f).dir := runAC_ok follows T_ok tab3_ok 4
end Go.Proofs.YtcbjdjjgdamnkaaGreat

namespace Go.Proofs.YtcbjdjjgdamnkaaGreat
open Go.Vm
set_option maxRecDepth 100000
set_option linter.unusedVariables false
def tmPdA : PPdA → Vm.St
  | .m b xs => ⟨[(0, .v 38 b), (3, .o 1 1)], (.n none (.n (some (.row 5 1 xs false false)) .e .e) .e), [], 2⟩
def ekPdA (R : Type) (kx : Exit → Vm.St → Option R) : QPdA → Option R
  | .o b xs => kx (.exit 0) ⟨[(0, .v 38 b), (3, .o 1 1)], (.n none (.n (some (.row 5 1 xs false false)) .e .e) .e), [], 8⟩
def extPdA : Vm.St → Option PPdA
  | ⟨[(0, .v 38 b), (3, .o 1 1)], (.n none (.n (some (.row 5 1 xs false false)) .e .e) .e), [], 2⟩ => some (.m b xs)
  | _ => none
theorem extPdA_ok (τ : Vm.St) (x : PPdA) (h : extPdA τ = some x) : τ = tmPdA x := by
  unfold extPdA at h
  split at h <;> first | (cases h; rfl) | cases h
theorem stepPdA (R : Type) (of : Nat → Option Ob) (x : PPdA) (K : Vm.St → Option R) (kx : Exit → Vm.St → Option R) : execC T K3 (fun _ => none) false FU (ntOf Tryz.prog 46) of R (lp (codeOf Tryz.prog 46) 0) (tmPdA x) (sortN 0 [0, 3] 8 K kx) = BPdA R x (fun x' => K (tmPdA x')) (ekPdA R kx) := by
  cases x
  · kernel_rfl
noncomputable def HPdA : LS := loopH T K3 (fun _ => none) (ntOf Tryz.prog 46) (lp (codeOf Tryz.prog 46) 0) 0 [0, 3] 8 extPdA BPdA ekPdA
theorem HPdA_ok : LoopTk Tryz.prog T (ntOf Tryz.prog 46) 0 (lp (codeOf Tryz.prog 46) 0) HPdA :=
  loopH_ok follows T_ok hK3 hS3 loNat_none (loopsOK_none _) tmPdA extPdA_ok stepPdA
noncomputable def LoPd : Nat → LC := atN 0 [(2, HPdA)]
theorem LoPd_ok : LoopsC Tryz.prog T 46 LoPd := loopsC_at 0 (List.forall_mem_cons.2 ⟨HPdA_ok.1, fun _ h => by cases h⟩) 2 (by kernel_rfl) ⟨⟨trivial, loI (s0 := HPdA) (by kernel_rfl) HPdA_ok⟩, loN (by kernel_rfl)⟩

theorem run_pd (R : Type) (b : V) (k : List Rs → Option R) : runFC Tryz.prog T K3 LoPd false FU 46 R (mkAs T [38] [b]) (fun _ => none) 0 (fun out => ob (resC T false [.r 5] out) k) = Gpd 5 R [b] k := by kernel_rfl
noncomputable def tab4 : List (Nat × SymC) := (46, pureS T false [38] (Fpd 5)) :: tab3
theorem tab4_ok : TabOK Tryz.prog T tab4 := by
  refine pure_run (sh := false) (rk := [.r 5]) (d := 4) (fu := FU) (Lo := LoPd) (G := Gpd 5) follows T_ok tab3_ok (Fpd_nat 5) (by kernel_rfl) LoPd_ok (fun R xs k htv => ?_) (fun xs rs htv hrs => ?_)
  · match xs, htv.len with
    | [b], _ => exact run_pd R b k
  · match xs, htv.len with
    | [b], _ => exact pd_law 5 hrs
noncomputable def K4 : KC := runAC Tryz.prog T tab4 false FU 4
theorem hK4 : K4.nat := runAC_nat tab4_ok 4
theorem hS4 : ∀ f, SymOK Tryz.prog T f (K4 f).dir := runAC_ok follows T_ok tab4_ok 4
def tmSmA : PSmA → Vm.St
  | .m z v xs kk at_ ws i => ⟨[(2, .p 0 34 []), (3, .p 1 85 []), (4, .o 2 1), (5, .p 4 86 []), (6, .i .i64 at_), (7, .o 5 1), (8, .i .i64 i)], (.n (some (.box 34 (.v 34 z) false)) (.n (some (.box 85 (.v 85 v) false)) .e (.n (some (.row 74 1 ws false false)) .e .e)) (.n (some (.row 5 1 xs false false)) (.n (some (.box 86 (.v 86 kk) false)) .e .e) .e)), [], 6⟩
def ekSmA (R : Type) (kx : Exit → Vm.St → Option R) : QSmA → Option R
  | .o z v xs kk at_ ws i => kx (.exit 2) ⟨[(2, .p 0 34 []), (3, .p 1 85 []), (4, .o 2 1), (5, .p 4 86 []), (6, .i .i64 at_), (7, .o 5 1), (8, .i .i64 i)], (.n (some (.box 34 (.v 34 z) false)) (.n (some (.box 85 (.v 85 v) false)) .e (.n (some (.row 74 1 ws false false)) .e .e)) (.n (some (.row 5 1 xs false false)) (.n (some (.box 86 (.v 86 kk) false)) .e .e) .e)), [], 16⟩
def extSmA : Vm.St → Option PSmA
  | ⟨[(2, .p 0 34 []), (3, .p 1 85 []), (4, .o 2 1), (5, .p 4 86 []), (6, .i .i64 at_), (7, .o 5 1), (8, .i .i64 i)], (.n (some (.box 34 (.v 34 z) false)) (.n (some (.box 85 (.v 85 v) false)) .e (.n (some (.row 74 1 ws false false)) .e .e)) (.n (some (.row 5 1 xs false false)) (.n (some (.box 86 (.v 86 kk) false)) .e .e) .e)), [], 6⟩ => some (.m z v xs kk at_ ws i)
  | _ => none
theorem extSmA_ok (τ : Vm.St) (x : PSmA) (h : extSmA τ = some x) : τ = tmSmA x := by
  unfold extSmA at h
  split at h <;> first | (cases h; rfl) | cases h
theorem stepSmA (R : Type) (of : Nat → Option Ob) (x : PSmA) (K : Vm.St → Option R) (kx : Exit → Vm.St → Option R) : execC T K4 (fun _ => none) false FU (ntOf Tryz.prog 31) of R (lp (codeOf Tryz.prog 31) 1) (tmSmA x) (sortN 0 [2, 3, 4, 5, 6, 7, 8] 16 K kx) = BSmA R x (fun x' => K (tmSmA x')) (ekSmA R kx) := by
  cases x
  · kernel_rfl
noncomputable def HSmA : LS := loopH T K4 (fun _ => none) (ntOf Tryz.prog 31) (lp (codeOf Tryz.prog 31) 1) 0 [2, 3, 4, 5, 6, 7, 8] 16 extSmA BSmA ekSmA
theorem HSmA_ok : LoopTk Tryz.prog T (ntOf Tryz.prog 31) 0 (lp (codeOf Tryz.prog 31) 1) HSmA :=
  loopH_ok follows T_ok hK4 hS4 loNat_none (loopsOK_none _) tmSmA extSmA_ok stepSmA
def tmSmB : PSmB → Vm.St
  | .m z v xs kk at_ ws x i => ⟨[(2, .p 0 34 []), (3, .p 1 85 []), (4, .o 2 1), (5, .p 4 86 []), (6, .i .i64 at_), (7, .o 5 1), (13, .p 16 85 []), (14, .i .i64 i)], (.n (some (.box 34 (.v 34 z) false)) (.n (some (.box 85 (.v 85 v) false)) .e (.n (some (.row 74 1 ws false false)) .e .e)) (.n (some (.row 5 1 xs false false)) (.n (some (.box 86 (.v 86 kk) false)) (.n none (.n (some (.box 85 (.v 85 x) false)) .e .e) .e) .e) .e)), [], 17⟩
def ekSmB (R : Type) (kx : Exit → Vm.St → Option R) : QSmB → Option R
  | .o z v xs kk at_ ws x i => kx (.exit 6) ⟨[(2, .p 0 34 []), (3, .p 1 85 []), (4, .o 2 1), (5, .p 4 86 []), (6, .i .i64 at_), (7, .o 5 1), (13, .p 16 85 []), (14, .i .i64 i)], (.n (some (.box 34 (.v 34 z) false)) (.n (some (.box 85 (.v 85 v) false)) .e (.n (some (.row 74 1 ws false false)) .e .e)) (.n (some (.row 5 1 xs false false)) (.n (some (.box 86 (.v 86 kk) false)) (.n none (.n (some (.box 85 (.v 85 x) false)) .e .e) .e) .e) .e)), [], 32⟩
def extSmB : Vm.St → Option PSmB
  | ⟨[(2, .p 0 34 []), (3, .p 1 85 []), (4, .o 2 1), (5, .p 4 86 []), (6, .i .i64 at_), (7, .o 5 1), (13, .p 16 85 []), (14, .i .i64 i)], (.n (some (.box 34 (.v 34 z) false)) (.n (some (.box 85 (.v 85 v) false)) .e (.n (some (.row 74 1 ws false false)) .e .e)) (.n (some (.row 5 1 xs false false)) (.n (some (.box 86 (.v 86 kk) false)) (.n none (.n (some (.box 85 (.v 85 x) false)) .e .e) .e) .e) .e)), [], 17⟩ => some (.m z v xs kk at_ ws x i)
  | _ => none
theorem extSmB_ok (τ : Vm.St) (x : PSmB) (h : extSmB τ = some x) : τ = tmSmB x := by
  unfold extSmB at h
  split at h <;> first | (cases h; rfl) | cases h
theorem stepSmB (R : Type) (of : Nat → Option Ob) (x : PSmB) (K : Vm.St → Option R) (kx : Exit → Vm.St → Option R) : execC T K4 (fun _ => none) false FU (ntOf Tryz.prog 31) of R (lp (codeOf Tryz.prog 31) 3) (tmSmB x) (sortN 0 [2, 3, 4, 5, 6, 7, 13, 14] 32 K kx) = BSmB R x (fun x' => K (tmSmB x')) (ekSmB R kx) := by
  cases x
  · kernel_rfl
noncomputable def HSmB : LS := loopH T K4 (fun _ => none) (ntOf Tryz.prog 31) (lp (codeOf Tryz.prog 31) 3) 0 [2, 3, 4, 5, 6, 7, 13, 14] 32 extSmB BSmB ekSmB
theorem HSmB_ok : LoopTk Tryz.prog T (ntOf Tryz.prog 31) 0 (lp (codeOf Tryz.prog 31) 3) HSmB :=
  loopH_ok follows T_ok hK4 hS4 loNat_none (loopsOK_none _) tmSmB extSmB_ok stepSmB
def tmSmO : PSmO → Vm.St
  | .m z v xs kk at_ => ⟨[(2, .p 0 34 []), (3, .p 1 85 []), (4, .o 2 1), (5, .p 4 86 []), (6, .i .i64 at_)], (.n (some (.box 34 (.v 34 z) false)) (.n (some (.box 85 (.v 85 v) false)) .e .e) (.n (some (.row 5 1 xs false false)) (.n (some (.box 86 (.v 86 kk) false)) .e .e) .e)), [], 5⟩
def ekSmO (R : Type) (kx : Exit → Vm.St → Option R) : QSmO → Option R
  | .o z v xs kk at_ => kx (.exit 0) ⟨[(2, .p 0 34 []), (3, .p 1 85 []), (4, .o 2 1), (5, .p 4 86 []), (6, .i .i64 at_)], (.n (some (.box 34 (.v 34 z) false)) (.n (some (.box 85 (.v 85 v) false)) .e .e) (.n (some (.row 5 1 xs false false)) (.n (some (.box 86 (.v 86 kk) false)) .e .e) .e)), [], 64⟩
def extSmO : Vm.St → Option PSmO
  | ⟨[(2, .p 0 34 []), (3, .p 1 85 []), (4, .o 2 1), (5, .p 4 86 []), (6, .i .i64 at_)], (.n (some (.box 34 (.v 34 z) false)) (.n (some (.box 85 (.v 85 v) false)) .e .e) (.n (some (.row 5 1 xs false false)) (.n (some (.box 86 (.v 86 kk) false)) .e .e) .e)), [], 5⟩ => some (.m z v xs kk at_)
  | _ => none
theorem extSmO_ok (τ : Vm.St) (x : PSmO) (h : extSmO τ = some x) : τ = tmSmO x := by
  unfold extSmO at h
  split at h <;> first | (cases h; rfl) | cases h
theorem stepSmO (R : Type) (of : Nat → Option Ob) (x : PSmO) (K : Vm.St → Option R) (kx : Exit → Vm.St → Option R) : execC T K4 (loT [(9, HSmA), (23, HSmB)]) false FU (ntOf Tryz.prog 31) of R (lp (codeOf Tryz.prog 31) 0) (tmSmO x) (sortN 0 [2, 3, 4, 5, 6] 64 K kx) = BSmO R x (fun x' => K (tmSmO x')) (ekSmO R kx) := by
  cases x
  · kernel_rfl
noncomputable def HSmO : LS := loopH T K4 (loT [(9, HSmA), (23, HSmB)]) (ntOf Tryz.prog 31) (lp (codeOf Tryz.prog 31) 0) 0 [2, 3, 4, 5, 6] 64 extSmO BSmO ekSmO
theorem HSmO_ok : LoopTk Tryz.prog T (ntOf Tryz.prog 31) 0 (lp (codeOf Tryz.prog 31) 0) HSmO :=
  loopH_ok follows T_ok hK4 hS4 (loT_nat (List.forall_mem_cons.2 ⟨HSmA_ok.1, List.forall_mem_cons.2 ⟨HSmB_ok.1, fun _ h => by cases h⟩⟩)) (loopsOK_at 5 (by kernel_rfl) ⟨⟨⟨⟨⟨trivial, loI (s0 := HSmA) (by kernel_rfl) ((show lp (lp (codeOf Tryz.prog 31) 0) 0 = lp (codeOf Tryz.prog 31) 1 from by kernel_rfl) ▸ HSmA_ok)⟩, loN (by kernel_rfl)⟩, loI (s0 := HSmB) (by kernel_rfl) ((show lp (lp (codeOf Tryz.prog 31) 0) 2 = lp (codeOf Tryz.prog 31) 3 from by kernel_rfl) ▸ HSmB_ok)⟩, loN (by kernel_rfl)⟩, loN (by kernel_rfl)⟩) tmSmO extSmO_ok stepSmO
noncomputable def LoSm : Nat → LC := atN 0 [(5, HSmO)]
theorem LoSm_ok : LoopsC Tryz.prog T 31 LoSm := loopsC_at 0 (List.forall_mem_cons.2 ⟨HSmO_ok.1, fun _ h => by cases h⟩) 8 (by kernel_rfl) ⟨⟨⟨⟨⟨⟨⟨⟨trivial, loI (s0 := HSmO) (by kernel_rfl) HSmO_ok⟩, loN (by kernel_rfl)⟩, loN (by kernel_rfl)⟩, loN (by kernel_rfl)⟩, loN (by kernel_rfl)⟩, loN (by kernel_rfl)⟩, loN (by kernel_rfl)⟩, loN (by kernel_rfl)⟩

theorem run_sm (R : Type) (b : V) (k : List Rs → Option R) : runFC Tryz.prog T K4 LoSm false FU 31 R (mkAs T [38] [b]) (fun _ => none) 0 (fun out => ob (resC T false [.d 34] out) k) = Gsm 34 R [b] k := by kernel_rfl
noncomputable def tab5 : List (Nat × SymC) := (31, pureS T false [38] (Fsm 34)) :: tab4
theorem tab5_ok : TabOK Tryz.prog T tab5 := by
  refine pure_run (sh := false) (rk := [.d 34]) (d := 4) (fu := FU) (Lo := LoSm) (G := Gsm 34) follows T_ok tab4_ok (Fsm_nat 34) (by kernel_rfl) LoSm_ok (fun R xs k htv => ?_) (fun xs rs htv hrs => ?_)
  · match xs, htv.len with
    | [b], _ => exact run_sm R b k
  · match xs, htv, htv.len with
    | [b], htv, _ =>
      obtain ⟨e, cs, hx⟩ := htv.head
      obtain ⟨bs, h1, h2⟩ := tv_slice (T := T) (el := 5) (kd := .u8) (by kernel_rfl) (by kernel_rfl) rfl hx
      exact sm_law 34 h1 (lt256 h2) hrs
noncomputable def K5 : KC := runAC Tryz.prog T tab5 false FU 4
theorem hK5 : K5.nat := runAC_nat tab5_ok 4
theorem hS5 : ∀ f, SymOK Tryz.prog T f (K5 f).dir := runAC_ok follows T_ok tab5_ok 4
end Go.Proofs.YtcbjdjjgdamnkaaGreat

namespace Go.Proofs.YtcbjdjjgdamnkaaGreat
open Go.Vm
set_option maxRecDepth 100000
set_option linter.unusedVariables false
noncomputable def tabZ : List (Nat × Sym) := [(66, (pureS T false [110, 38] (seeF (Fmx 110))).dir), (31, (pureS T false [38] (seeF (Fsm 34))).dir), (55, cmpS T 38), (121, carry64), (122, borrow64)]
theorem tabZ_ok : AllS Tryz.prog T tabZ := ⟨TabOK.see (TabOK.at tab3_ok (by kernel_rfl)), TabOK.see (TabOK.at tab5_ok (by kernel_rfl)), cmp_ok (u8 := 5) (by kernel_rfl) (by kernel_rfl) Tryz.func55 (by kernel_rfl) (by kernel_rfl) (by kernel_rfl) (by kernel_rfl), carry64_ok Tryz.func121 (by kernel_rfl) (by kernel_rfl) (by kernel_rfl) (by kernel_rfl), borrow64_ok Tryz.func122 (by kernel_rfl) (by kernel_rfl) (by kernel_rfl) (by kernel_rfl), trivial⟩
theorem law_run : ansB true (runZ Tryz.prog T tabZ 100000 60 3 [] (fun _ => none) 0) = true := by kernel_rfl
end Go.Proofs.YtcbjdjjgdamnkaaGreat
end

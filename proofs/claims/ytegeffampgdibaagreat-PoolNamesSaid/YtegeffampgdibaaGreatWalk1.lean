/- What functions compute, and the law run. -/
import Derived.Test.YtegeffampgdibaaGreatTy
import Derived.Test.YtegeffampgdibaaGreatVm10
import Derived.Shelf.SlMaps.Clone
set_option linter.constructorNameAsVariable false
set_option linter.unusedVariables false
set_option linter.unusedSimpArgs false
noncomputable section
namespace Go.Proofs.YtegeffampgdibaaGreat
open Go.Vm
set_option maxRecDepth 100000
set_option linter.unusedVariables false
noncomputable def tab1 : List (Nat × SymC) := []
theorem tab1_ok : TabOK Tryz.prog T tab1 := tabOK_nil
noncomputable def K1 : KC := runAC Tryz.prog T tab1 false FU 4
theorem hK1 : K1.nat := runAC_nat tab1_ok 4
theorem hS1 : ∀ f, SymOK Tryz.prog T f (K1 f).dir := runAC_ok follows T_ok tab1_ok 4
def tmSpA : PSpA → Vm.St
  | .m x z i w => ⟨[(0, .v 38 x), (2, .p 0 196 []), (3, .p 1 196 []), (8, .i .i64 i)], (.n (some (.box 196 (.v 196 z) false)) (.n (some (.box 196 (.v 196 w) false)) .e .e) .e), [], 2, some []⟩
def ekSpA (R : Type) (kx : Exit → Vm.St → Option R) : QSpA → Option R
  | .o x z i w => kx (.exit 0) ⟨[(0, .v 38 x), (2, .p 0 196 []), (3, .p 1 196 []), (8, .i .i64 i)], (.n (some (.box 196 (.v 196 z) false)) (.n (some (.box 196 (.v 196 w) false)) .e .e) .e), [], 16, some []⟩
def extSpA : Vm.St → Option PSpA
  | ⟨[(0, .v 38 x), (2, .p 0 196 []), (3, .p 1 196 []), (8, .i .i64 i)], (.n (some (.box 196 (.v 196 z) false)) (.n (some (.box 196 (.v 196 w) false)) .e .e) .e), [], 2, some []⟩ => some (.m x z i w)
  | _ => none
theorem extSpA_ok (τ : Vm.St) (x : PSpA) (h : extSpA τ = some x) : τ = tmSpA x := by
  unfold extSpA at h
  split at h <;> first | (cases h; rfl) | cases h
theorem stepSpA (R : Type) (of : Nat → Option Ob) (x : PSpA) (K : Vm.St → Option R) (kx : Exit → Vm.St → Option R) : execC T K1 (fun _ => none) false FU (ntOf Tryz.prog 125) of R (lp (codeOf Tryz.prog 125) 0) (tmSpA x) (sortN 0 [0, 2, 3, 8] 16 K kx) = BSpA R x (fun x' => K (tmSpA x')) (ekSpA R kx) := by
  cases x
  · kernel_rfl
noncomputable def HSpA : LS := loopH T K1 (fun _ => none) (ntOf Tryz.prog 125) (lp (codeOf Tryz.prog 125) 0) 0 [0, 2, 3, 8] 16 extSpA BSpA ekSpA
theorem HSpA_ok : LoopTk Tryz.prog T (ntOf Tryz.prog 125) 0 (lp (codeOf Tryz.prog 125) 0) HSpA :=
  loopH_ok follows T_ok hK1 hS1 loNat_none (loopsOK_none _) tmSpA extSpA_ok stepSpA
def tmSpB : PSpB → Vm.St
  | .m z i w => ⟨[(2, .p 0 196 []), (3, .p 1 196 []), (5, .i .i64 i)], (.n (some (.box 196 (.v 196 z) false)) (.n (some (.box 196 (.v 196 w) false)) .e .e) .e), [], 2, some []⟩
def ekSpB (R : Type) (kx : Exit → Vm.St → Option R) : QSpB → Option R
  | .o z i w => kx (.exit 2) ⟨[(2, .p 0 196 []), (3, .p 1 196 []), (5, .i .i64 i)], (.n (some (.box 196 (.v 196 z) false)) (.n (some (.box 196 (.v 196 w) false)) .e .e) .e), [], 16, some []⟩
def extSpB : Vm.St → Option PSpB
  | ⟨[(2, .p 0 196 []), (3, .p 1 196 []), (5, .i .i64 i)], (.n (some (.box 196 (.v 196 z) false)) (.n (some (.box 196 (.v 196 w) false)) .e .e) .e), [], 2, some []⟩ => some (.m z i w)
  | _ => none
theorem extSpB_ok (τ : Vm.St) (x : PSpB) (h : extSpB τ = some x) : τ = tmSpB x := by
  unfold extSpB at h
  split at h <;> first | (cases h; rfl) | cases h
theorem stepSpB (R : Type) (of : Nat → Option Ob) (x : PSpB) (K : Vm.St → Option R) (kx : Exit → Vm.St → Option R) : execC T K1 (fun _ => none) false FU (ntOf Tryz.prog 125) of R (lp (codeOf Tryz.prog 125) 1) (tmSpB x) (sortN 0 [2, 3, 5] 16 K kx) = BSpB R x (fun x' => K (tmSpB x')) (ekSpB R kx) := by
  cases x
  · kernel_rfl
noncomputable def HSpB : LS := loopH T K1 (fun _ => none) (ntOf Tryz.prog 125) (lp (codeOf Tryz.prog 125) 1) 0 [2, 3, 5] 16 extSpB BSpB ekSpB
theorem HSpB_ok : LoopTk Tryz.prog T (ntOf Tryz.prog 125) 0 (lp (codeOf Tryz.prog 125) 1) HSpB :=
  loopH_ok follows T_ok hK1 hS1 loNat_none (loopsOK_none _) tmSpB extSpB_ok stepSpB
noncomputable def LoSp : Nat → LC := atN 0 [(3, HSpA), (8, HSpB)]
theorem LoSp_ok : LoopsC Tryz.prog T 125 LoSp := loopsC_at 0 (List.forall_mem_cons.2 ⟨HSpA_ok.1, List.forall_mem_cons.2 ⟨HSpB_ok.1, fun _ h => by cases h⟩⟩) 2 (by kernel_rfl) ⟨⟨trivial, loI (s0 := HSpA) (by kernel_rfl) HSpA_ok⟩, loI (s0 := HSpB) (by kernel_rfl) HSpB_ok⟩
noncomputable def Gsp : FC := fun R xs k => match xs with
  | [x] => lpC (BSpA R) (hid FU) (.m x z64 0 z64) (fun | .o _ z _ w => lpC (BSpB R) (hid FU) (.m z 16 w) (fun | .o _ _ w => k [.d 196 w]))
  | _ => none
theorem run_sp (R : Type) (x : V) (k : List Rs → Option R) : runFC Tryz.prog T K1 LoSp false FU 125 R (mkAs T [38] [x]) (fun _ => none) 0 (fun out => ob (resC T false [.d 196] out) k) = Gsp R [x] k := by kernel_rfl
noncomputable def tab2 : List (Nat × SymC) := (125, pureS T false [38] (Fsp 196)) :: tab1
theorem tab2_ok : TabOK Tryz.prog T tab2 := by
  refine pure_run (sh := false) (rk := [.d 196]) (d := 4) (fu := FU) (Lo := LoSp) (G := Gsp) follows T_ok tab1_ok (Fsp_nat 196) (by kernel_rfl) LoSp_ok (fun R xs k htv => ?_) (fun xs rs htv hrs => ?_)
  · match xs, htv.len with
    | [x], _ => exact run_sp R x k
  · match xs, htv, htv.len with
    | [x], htv, _ =>
      obtain ⟨e, cs, hx⟩ := htv.head
      obtain ⟨bs, h1, h2⟩ := tv_slice (T := T) (el := 5) (kd := .u8) (by kernel_rfl) (by kernel_rfl) rfl hx
      simp only [Fsp] at hrs
      cases hl : Nat.ble 64 x.els.length with
      | false => rw [hl] at hrs; cases hrs
      | true =>
        rw [hl] at hrs
        have hl := Nat.le_of_ble_eq_true hl
        rw [h1, List.length_map] at hl
        exact (spread_law h1 (lt256 h2) hl HID (fun w => some [Rs.d 196 w])).trans hrs
noncomputable def K2 : KC := runAC Tryz.prog T tab2 false FU 4
theorem hK2 : K2.nat := runAC_nat tab2_ok 4
theorem hS2 : ∀ f, SymOK Tryz.prog T f (K2 f).dir := runAC_ok follows T_ok tab2_ok 4
def tmMxA : PMxA → Vm.St
  | .m s z w k x i => ⟨[(2, .p 0 183 []), (4, .p 1 183 []), (5, .p 3 196 []), (6, .p 4 196 []), (7, .p 5 183 []), (18, .i .i64 i)], (.n (some (.box 183 (.v 183 s) false)) (.n (some (.box 183 (.v 183 z) false)) (.n (some (.box 196 (.v 196 w) false)) .e .e) (.n (some (.box 183 (.v 183 x) false)) .e .e)) (.n none (.n (some (.box 196 (.v 196 k) false)) .e .e) .e)), [], 6, some []⟩
def ekMxA (R : Type) (kx : Exit → Vm.St → Option R) : QMxA → Option R
  | .o s z w k x i => kx (.exit 0) ⟨[(2, .p 0 183 []), (4, .p 1 183 []), (5, .p 3 196 []), (6, .p 4 196 []), (7, .p 5 183 []), (18, .i .i64 i)], (.n (some (.box 183 (.v 183 s) false)) (.n (some (.box 183 (.v 183 z) false)) (.n (some (.box 196 (.v 196 w) false)) .e .e) (.n (some (.box 183 (.v 183 x) false)) .e .e)) (.n none (.n (some (.box 196 (.v 196 k) false)) .e .e) .e)), [], 16, some []⟩
def extMxA : Vm.St → Option PMxA
  | ⟨[(2, .p 0 183 []), (4, .p 1 183 []), (5, .p 3 196 []), (6, .p 4 196 []), (7, .p 5 183 []), (18, .i .i64 i)], (.n (some (.box 183 (.v 183 s) false)) (.n (some (.box 183 (.v 183 z) false)) (.n (some (.box 196 (.v 196 w) false)) .e .e) (.n (some (.box 183 (.v 183 x) false)) .e .e)) (.n none (.n (some (.box 196 (.v 196 k) false)) .e .e) .e)), [], 6, some []⟩ => some (.m s z w k x i)
  | _ => none
theorem extMxA_ok (τ : Vm.St) (x : PMxA) (h : extMxA τ = some x) : τ = tmMxA x := by
  unfold extMxA at h
  split at h <;> first | (cases h; rfl) | cases h
theorem stepMxA (R : Type) (of : Nat → Option Ob) (x : PMxA) (K : Vm.St → Option R) (kx : Exit → Vm.St → Option R) : execC T K2 (fun _ => none) false FU (ntOf Tryz.prog 115) of R (lp (codeOf Tryz.prog 115) 0) (tmMxA x) (sortN 0 [2, 4, 5, 6, 7, 18] 16 K kx) = BMxA R x (fun x' => K (tmMxA x')) (ekMxA R kx) := by
  cases x
  · kernel_rfl
noncomputable def HMxA : LS := loopH T K2 (fun _ => none) (ntOf Tryz.prog 115) (lp (codeOf Tryz.prog 115) 0) 0 [2, 4, 5, 6, 7, 18] 16 extMxA BMxA ekMxA
theorem HMxA_ok : LoopTk Tryz.prog T (ntOf Tryz.prog 115) 0 (lp (codeOf Tryz.prog 115) 0) HMxA :=
  loopH_ok follows T_ok hK2 hS2 loNat_none (loopsOK_none _) tmMxA extMxA_ok stepMxA
def tmMxB : PMxB → Vm.St
  | .m s z x i => ⟨[(2, .p 0 183 []), (4, .p 1 183 []), (7, .p 5 183 []), (98, .i .i64 i)], (.n (some (.box 183 (.v 183 s) false)) (.n (some (.box 183 (.v 183 z) false)) .e (.n (some (.box 183 (.v 183 x) false)) .e .e)) .e), [], 6, some []⟩
def ekMxB (R : Type) (kx : Exit → Vm.St → Option R) : QMxB → Option R
  | .o s z x i => kx (.exit 2) ⟨[(2, .p 0 183 []), (4, .p 1 183 []), (7, .p 5 183 []), (98, .i .i64 i)], (.n (some (.box 183 (.v 183 s) false)) (.n (some (.box 183 (.v 183 z) false)) .e (.n (some (.box 183 (.v 183 x) false)) .e .e)) .e), [], 16, some []⟩
def extMxB : Vm.St → Option PMxB
  | ⟨[(2, .p 0 183 []), (4, .p 1 183 []), (7, .p 5 183 []), (98, .i .i64 i)], (.n (some (.box 183 (.v 183 s) false)) (.n (some (.box 183 (.v 183 z) false)) .e (.n (some (.box 183 (.v 183 x) false)) .e .e)) .e), [], 6, some []⟩ => some (.m s z x i)
  | _ => none
theorem extMxB_ok (τ : Vm.St) (x : PMxB) (h : extMxB τ = some x) : τ = tmMxB x := by
  unfold extMxB at h
  split at h <;> first | (cases h; rfl) | cases h
theorem stepMxB (R : Type) (of : Nat → Option Ob) (x : PMxB) (K : Vm.St → Option R) (kx : Exit → Vm.St → Option R) : execC T K2 (fun _ => none) false FU (ntOf Tryz.prog 115) of R (lp (codeOf Tryz.prog 115) 1) (tmMxB x) (sortN 0 [2, 4, 7, 98] 16 K kx) = BMxB R x (fun x' => K (tmMxB x')) (ekMxB R kx) := by
  cases x
  · kernel_rfl
noncomputable def HMxB : LS := loopH T K2 (fun _ => none) (ntOf Tryz.prog 115) (lp (codeOf Tryz.prog 115) 1) 0 [2, 4, 7, 98] 16 extMxB BMxB ekMxB
theorem HMxB_ok : LoopTk Tryz.prog T (ntOf Tryz.prog 115) 0 (lp (codeOf Tryz.prog 115) 1) HMxB :=
  loopH_ok follows T_ok hK2 hS2 loNat_none (loopsOK_none _) tmMxB extMxB_ok stepMxB
noncomputable def LoMx : Nat → LC := atN 0 [(3, HMxA), (11, HMxB)]
theorem LoMx_ok : LoopsC Tryz.prog T 115 LoMx := loopsC_at 0 (List.forall_mem_cons.2 ⟨HMxA_ok.1, List.forall_mem_cons.2 ⟨HMxB_ok.1, fun _ h => by cases h⟩⟩) 2 (by kernel_rfl) ⟨⟨trivial, loI (s0 := HMxA) (by kernel_rfl) HMxA_ok⟩, loI (s0 := HMxB) (by kernel_rfl) HMxB_ok⟩
noncomputable def Gmx : FC := fun R xs k => match xs with
  | [s, b] => bif Nat.ble 64 b.els.length then lpC (BMxA R) (hid FU) (.m s z8 (spW b) keysV s 0) (fun | .o s z _ _ x _ => lpC (BMxB R) (hid FU) (.m s z x 0) (fun | .o s _ _ _ => k [.d 183 s])) else none
  | _ => none
theorem run_mx (R : Type) (s b : V) (k : List Rs → Option R) : runFC Tryz.prog T K2 LoMx false FU 115 R (mkAs T [183, 38] [s, b]) (fun _ => none) 0 (fun out => ob (resC T false [.d 183] out) k) = Gmx R [s, b] k := by kernel_rfl
noncomputable def tab3 : List (Nat × SymC) := (115, pureS T false [183, 38] (Fmx 183)) :: tab2
theorem tab3_ok : TabOK Tryz.prog T tab3 := by
  refine pure_run (sh := false) (rk := [.d 183]) (d := 4) (fu := FU) (Lo := LoMx) (G := Gmx) follows T_ok tab2_ok (Fmx_nat 183) (by kernel_rfl) LoMx_ok (fun R xs k htv => ?_) (fun xs rs htv hrs => ?_)
  · match xs, htv.len with
    | [s, b], _ => exact run_mx R s b k
  · match xs, htv, htv.len with
    | [s, b], htv, _ =>
      obtain ⟨e, cs, hs⟩ := htv.head
      obtain ⟨e2, cs2, hx⟩ := htv.tail.head
      obtain ⟨bs, h1, h2⟩ := tv_slice (T := T) (el := 5) (kd := .u8) (by kernel_rfl) (by kernel_rfl) rfl hx
      obtain ⟨ns, rfl, n1, n2⟩ := tv_arr (T := T) (n := 8) (el := 31) (kd := .u32) (by kernel_rfl) (by kernel_rfl) rfl hs
      obtain ⟨s8, hs8, hok⟩ := stV_of n1 n2
      rw [hs8] at hrs ⊢
      simp only [Fmx] at hrs
      cases hl : Nat.ble 64 b.els.length with
      | false => rw [hl] at hrs; cases hrs
      | true =>
        rw [hl] at hrs
        simp only [Gmx, hl, cond_true]
        have hl := Nat.le_of_ble_eq_true hl
        rw [h1, List.length_map] at hl
        exact (mix_law hok h1 (lt256 h2) hl HID (fun w => some [Rs.d 183 w])).trans hrs
noncomputable def K3 : KC := runAC Tryz.prog T tab3 false FU 4
theorem hK3 : K3.nat := runAC_nat tab3_ok 4
theorem hS3 : ∀ f, SymOK Tryz.prog T f (K3 f).dir := runAC_ok follows T_ok tab3_ok 4
end Go.Proofs.YtegeffampgdibaaGreat

namespace Go.Proofs.YtegeffampgdibaaGreat
open Go.Vm
set_option maxRecDepth 100000
set_option linter.unusedVariables false
def tmPdA : PPdA → Vm.St
  | .m b xs => ⟨[(0, .v 38 b), (3, .o 1 1)], (.n none (.n (some (.row 5 1 xs false false)) .e .e) .e), [], 2, some []⟩
def ekPdA (R : Type) (kx : Exit → Vm.St → Option R) : QPdA → Option R
  | .o b xs => kx (.exit 0) ⟨[(0, .v 38 b), (3, .o 1 1)], (.n none (.n (some (.row 5 1 xs false false)) .e .e) .e), [], 8, some []⟩
def extPdA : Vm.St → Option PPdA
  | ⟨[(0, .v 38 b), (3, .o 1 1)], (.n none (.n (some (.row 5 1 xs false false)) .e .e) .e), [], 2, some []⟩ => some (.m b xs)
  | _ => none
theorem extPdA_ok (τ : Vm.St) (x : PPdA) (h : extPdA τ = some x) : τ = tmPdA x := by
  unfold extPdA at h
  split at h <;> first | (cases h; rfl) | cases h
theorem stepPdA (R : Type) (of : Nat → Option Ob) (x : PPdA) (K : Vm.St → Option R) (kx : Exit → Vm.St → Option R) : execC T K3 (fun _ => none) false FU (ntOf Tryz.prog 79) of R (lp (codeOf Tryz.prog 79) 0) (tmPdA x) (sortN 0 [0, 3] 8 K kx) = BPdA R x (fun x' => K (tmPdA x')) (ekPdA R kx) := by
  cases x
  · kernel_rfl
noncomputable def HPdA : LS := loopH T K3 (fun _ => none) (ntOf Tryz.prog 79) (lp (codeOf Tryz.prog 79) 0) 0 [0, 3] 8 extPdA BPdA ekPdA
theorem HPdA_ok : LoopTk Tryz.prog T (ntOf Tryz.prog 79) 0 (lp (codeOf Tryz.prog 79) 0) HPdA :=
  loopH_ok follows T_ok hK3 hS3 loNat_none (loopsOK_none _) tmPdA extPdA_ok stepPdA
noncomputable def LoPd : Nat → LC := atN 0 [(2, HPdA)]
theorem LoPd_ok : LoopsC Tryz.prog T 79 LoPd := loopsC_at 0 (List.forall_mem_cons.2 ⟨HPdA_ok.1, fun _ h => by cases h⟩) 2 (by kernel_rfl) ⟨⟨trivial, loI (s0 := HPdA) (by kernel_rfl) HPdA_ok⟩, loN (by kernel_rfl)⟩

theorem run_pd (R : Type) (b : V) (k : List Rs → Option R) : runFC Tryz.prog T K3 LoPd false FU 79 R (mkAs T [38] [b]) (fun _ => none) 0 (fun out => ob (resC T false [.r 5] out) k) = Gpd 5 R [b] k := by kernel_rfl
noncomputable def tab4 : List (Nat × SymC) := (79, pureS T false [38] (Fpd 5)) :: tab3
theorem tab4_ok : TabOK Tryz.prog T tab4 := by
  refine pure_run (sh := false) (rk := [.r 5]) (d := 4) (fu := FU) (Lo := LoPd) (G := Gpd 5) follows T_ok tab3_ok (Fpd_nat 5) (by kernel_rfl) LoPd_ok (fun R xs k htv => ?_) (fun xs rs htv hrs => ?_)
  · match xs, htv.len with
    | [b], _ => exact run_pd R b k
  · match xs, htv.len with
    | [b], _ => exact pd_law 5 hrs
noncomputable def K4 : KC := runAC Tryz.prog T tab4 false FU 4
theorem hK4 : K4.nat := runAC_nat tab4_ok 4
theorem hS4 : ∀ f, SymOK Tryz.prog T f (K4 f).dir := runAC_ok follows T_ok tab4_ok 4
def tmSmA : PSmA → Vm.St
  | .m z v xs kk at_ ws i => ⟨[(2, .p 0 44 []), (3, .p 1 136 []), (4, .o 2 1), (5, .p 4 137 []), (6, .i .i64 at_), (7, .o 5 1), (8, .i .i64 i)], (.n (some (.box 44 (.v 44 z) false)) (.n (some (.box 136 (.v 136 v) false)) .e (.n (some (.row 71 1 ws false false)) .e .e)) (.n (some (.row 5 1 xs false false)) (.n (some (.box 137 (.v 137 kk) false)) .e .e) .e)), [], 6, some []⟩
def ekSmA (R : Type) (kx : Exit → Vm.St → Option R) : QSmA → Option R
  | .o z v xs kk at_ ws i => kx (.exit 2) ⟨[(2, .p 0 44 []), (3, .p 1 136 []), (4, .o 2 1), (5, .p 4 137 []), (6, .i .i64 at_), (7, .o 5 1), (8, .i .i64 i)], (.n (some (.box 44 (.v 44 z) false)) (.n (some (.box 136 (.v 136 v) false)) .e (.n (some (.row 71 1 ws false false)) .e .e)) (.n (some (.row 5 1 xs false false)) (.n (some (.box 137 (.v 137 kk) false)) .e .e) .e)), [], 16, some []⟩
def extSmA : Vm.St → Option PSmA
  | ⟨[(2, .p 0 44 []), (3, .p 1 136 []), (4, .o 2 1), (5, .p 4 137 []), (6, .i .i64 at_), (7, .o 5 1), (8, .i .i64 i)], (.n (some (.box 44 (.v 44 z) false)) (.n (some (.box 136 (.v 136 v) false)) .e (.n (some (.row 71 1 ws false false)) .e .e)) (.n (some (.row 5 1 xs false false)) (.n (some (.box 137 (.v 137 kk) false)) .e .e) .e)), [], 6, some []⟩ => some (.m z v xs kk at_ ws i)
  | _ => none
theorem extSmA_ok (τ : Vm.St) (x : PSmA) (h : extSmA τ = some x) : τ = tmSmA x := by
  unfold extSmA at h
  split at h <;> first | (cases h; rfl) | cases h
theorem stepSmA (R : Type) (of : Nat → Option Ob) (x : PSmA) (K : Vm.St → Option R) (kx : Exit → Vm.St → Option R) : execC T K4 (fun _ => none) false FU (ntOf Tryz.prog 52) of R (lp (codeOf Tryz.prog 52) 1) (tmSmA x) (sortN 0 [2, 3, 4, 5, 6, 7, 8] 16 K kx) = BSmA R x (fun x' => K (tmSmA x')) (ekSmA R kx) := by
  cases x
  · kernel_rfl
noncomputable def HSmA : LS := loopH T K4 (fun _ => none) (ntOf Tryz.prog 52) (lp (codeOf Tryz.prog 52) 1) 0 [2, 3, 4, 5, 6, 7, 8] 16 extSmA BSmA ekSmA
theorem HSmA_ok : LoopTk Tryz.prog T (ntOf Tryz.prog 52) 0 (lp (codeOf Tryz.prog 52) 1) HSmA :=
  loopH_ok follows T_ok hK4 hS4 loNat_none (loopsOK_none _) tmSmA extSmA_ok stepSmA
def tmSmB : PSmB → Vm.St
  | .m z v xs kk at_ ws x i => ⟨[(2, .p 0 44 []), (3, .p 1 136 []), (4, .o 2 1), (5, .p 4 137 []), (6, .i .i64 at_), (7, .o 5 1), (13, .p 16 136 []), (14, .i .i64 i)], (.n (some (.box 44 (.v 44 z) false)) (.n (some (.box 136 (.v 136 v) false)) .e (.n (some (.row 71 1 ws false false)) .e .e)) (.n (some (.row 5 1 xs false false)) (.n (some (.box 137 (.v 137 kk) false)) (.n none (.n (some (.box 136 (.v 136 x) false)) .e .e) .e) .e) .e)), [], 17, some []⟩
def ekSmB (R : Type) (kx : Exit → Vm.St → Option R) : QSmB → Option R
  | .o z v xs kk at_ ws x i => kx (.exit 6) ⟨[(2, .p 0 44 []), (3, .p 1 136 []), (4, .o 2 1), (5, .p 4 137 []), (6, .i .i64 at_), (7, .o 5 1), (13, .p 16 136 []), (14, .i .i64 i)], (.n (some (.box 44 (.v 44 z) false)) (.n (some (.box 136 (.v 136 v) false)) .e (.n (some (.row 71 1 ws false false)) .e .e)) (.n (some (.row 5 1 xs false false)) (.n (some (.box 137 (.v 137 kk) false)) (.n none (.n (some (.box 136 (.v 136 x) false)) .e .e) .e) .e) .e)), [], 32, some []⟩
def extSmB : Vm.St → Option PSmB
  | ⟨[(2, .p 0 44 []), (3, .p 1 136 []), (4, .o 2 1), (5, .p 4 137 []), (6, .i .i64 at_), (7, .o 5 1), (13, .p 16 136 []), (14, .i .i64 i)], (.n (some (.box 44 (.v 44 z) false)) (.n (some (.box 136 (.v 136 v) false)) .e (.n (some (.row 71 1 ws false false)) .e .e)) (.n (some (.row 5 1 xs false false)) (.n (some (.box 137 (.v 137 kk) false)) (.n none (.n (some (.box 136 (.v 136 x) false)) .e .e) .e) .e) .e)), [], 17, some []⟩ => some (.m z v xs kk at_ ws x i)
  | _ => none
theorem extSmB_ok (τ : Vm.St) (x : PSmB) (h : extSmB τ = some x) : τ = tmSmB x := by
  unfold extSmB at h
  split at h <;> first | (cases h; rfl) | cases h
theorem stepSmB (R : Type) (of : Nat → Option Ob) (x : PSmB) (K : Vm.St → Option R) (kx : Exit → Vm.St → Option R) : execC T K4 (fun _ => none) false FU (ntOf Tryz.prog 52) of R (lp (codeOf Tryz.prog 52) 3) (tmSmB x) (sortN 0 [2, 3, 4, 5, 6, 7, 13, 14] 32 K kx) = BSmB R x (fun x' => K (tmSmB x')) (ekSmB R kx) := by
  cases x
  · kernel_rfl
noncomputable def HSmB : LS := loopH T K4 (fun _ => none) (ntOf Tryz.prog 52) (lp (codeOf Tryz.prog 52) 3) 0 [2, 3, 4, 5, 6, 7, 13, 14] 32 extSmB BSmB ekSmB
theorem HSmB_ok : LoopTk Tryz.prog T (ntOf Tryz.prog 52) 0 (lp (codeOf Tryz.prog 52) 3) HSmB :=
  loopH_ok follows T_ok hK4 hS4 loNat_none (loopsOK_none _) tmSmB extSmB_ok stepSmB
def tmSmO : PSmO → Vm.St
  | .m z v xs kk at_ => ⟨[(2, .p 0 44 []), (3, .p 1 136 []), (4, .o 2 1), (5, .p 4 137 []), (6, .i .i64 at_)], (.n (some (.box 44 (.v 44 z) false)) (.n (some (.box 136 (.v 136 v) false)) .e .e) (.n (some (.row 5 1 xs false false)) (.n (some (.box 137 (.v 137 kk) false)) .e .e) .e)), [], 5, some []⟩
def ekSmO (R : Type) (kx : Exit → Vm.St → Option R) : QSmO → Option R
  | .o z v xs kk at_ => kx (.exit 0) ⟨[(2, .p 0 44 []), (3, .p 1 136 []), (4, .o 2 1), (5, .p 4 137 []), (6, .i .i64 at_)], (.n (some (.box 44 (.v 44 z) false)) (.n (some (.box 136 (.v 136 v) false)) .e .e) (.n (some (.row 5 1 xs false false)) (.n (some (.box 137 (.v 137 kk) false)) .e .e) .e)), [], 64, some []⟩
def extSmO : Vm.St → Option PSmO
  | ⟨[(2, .p 0 44 []), (3, .p 1 136 []), (4, .o 2 1), (5, .p 4 137 []), (6, .i .i64 at_)], (.n (some (.box 44 (.v 44 z) false)) (.n (some (.box 136 (.v 136 v) false)) .e .e) (.n (some (.row 5 1 xs false false)) (.n (some (.box 137 (.v 137 kk) false)) .e .e) .e)), [], 5, some []⟩ => some (.m z v xs kk at_)
  | _ => none
theorem extSmO_ok (τ : Vm.St) (x : PSmO) (h : extSmO τ = some x) : τ = tmSmO x := by
  unfold extSmO at h
  split at h <;> first | (cases h; rfl) | cases h
theorem stepSmO (R : Type) (of : Nat → Option Ob) (x : PSmO) (K : Vm.St → Option R) (kx : Exit → Vm.St → Option R) : execC T K4 (loT [(9, HSmA), (23, HSmB)]) false FU (ntOf Tryz.prog 52) of R (lp (codeOf Tryz.prog 52) 0) (tmSmO x) (sortN 0 [2, 3, 4, 5, 6] 64 K kx) = BSmO R x (fun x' => K (tmSmO x')) (ekSmO R kx) := by
  cases x
  · kernel_rfl
noncomputable def HSmO : LS := loopH T K4 (loT [(9, HSmA), (23, HSmB)]) (ntOf Tryz.prog 52) (lp (codeOf Tryz.prog 52) 0) 0 [2, 3, 4, 5, 6] 64 extSmO BSmO ekSmO
theorem HSmO_ok : LoopTk Tryz.prog T (ntOf Tryz.prog 52) 0 (lp (codeOf Tryz.prog 52) 0) HSmO :=
  loopH_ok follows T_ok hK4 hS4 (loT_nat (List.forall_mem_cons.2 ⟨HSmA_ok.1, List.forall_mem_cons.2 ⟨HSmB_ok.1, fun _ h => by cases h⟩⟩)) (loopsOK_at 5 (by kernel_rfl) ⟨⟨⟨⟨⟨trivial, loI (s0 := HSmA) (by kernel_rfl) ((show lp (lp (codeOf Tryz.prog 52) 0) 0 = lp (codeOf Tryz.prog 52) 1 from by kernel_rfl) ▸ HSmA_ok)⟩, loN (by kernel_rfl)⟩, loI (s0 := HSmB) (by kernel_rfl) ((show lp (lp (codeOf Tryz.prog 52) 0) 2 = lp (codeOf Tryz.prog 52) 3 from by kernel_rfl) ▸ HSmB_ok)⟩, loN (by kernel_rfl)⟩, loN (by kernel_rfl)⟩) tmSmO extSmO_ok stepSmO
noncomputable def LoSm : Nat → LC := atN 0 [(5, HSmO)]
theorem LoSm_ok : LoopsC Tryz.prog T 52 LoSm := loopsC_at 0 (List.forall_mem_cons.2 ⟨HSmO_ok.1, fun _ h => by cases h⟩) 8 (by kernel_rfl) ⟨⟨⟨⟨⟨⟨⟨⟨trivial, loI (s0 := HSmO) (by kernel_rfl) HSmO_ok⟩, loN (by kernel_rfl)⟩, loN (by kernel_rfl)⟩, loN (by kernel_rfl)⟩, loN (by kernel_rfl)⟩, loN (by kernel_rfl)⟩, loN (by kernel_rfl)⟩, loN (by kernel_rfl)⟩

theorem run_sm (R : Type) (b : V) (k : List Rs → Option R) : runFC Tryz.prog T K4 LoSm false FU 52 R (mkAs T [38] [b]) (fun _ => none) 0 (fun out => ob (resC T false [.d 44] out) k) = Gsm 44 R [b] k := by kernel_rfl
noncomputable def tab5 : List (Nat × SymC) := (52, pureS T false [38] (Fsm 44)) :: tab4
theorem tab5_ok : TabOK Tryz.prog T tab5 := by
  refine pure_run (sh := false) (rk := [.d 44]) (d := 4) (fu := FU) (Lo := LoSm) (G := Gsm 44) follows T_ok tab4_ok (Fsm_nat 44) (by kernel_rfl) LoSm_ok (fun R xs k htv => ?_) (fun xs rs htv hrs => ?_)
  · match xs, htv.len with
    | [b], _ => exact run_sm R b k
  · match xs, htv, htv.len with
    | [b], htv, _ =>
      obtain ⟨e, cs, hx⟩ := htv.head
      obtain ⟨bs, h1, h2⟩ := tv_slice (T := T) (el := 5) (kd := .u8) (by kernel_rfl) (by kernel_rfl) rfl hx
      exact sm_law 44 h1 (lt256 h2) hrs
noncomputable def K5 : KC := runAC Tryz.prog T tab5 false FU 4
theorem hK5 : K5.nat := runAC_nat tab5_ok 4
theorem hS5 : ∀ f, SymOK Tryz.prog T f (K5 f).dir := runAC_ok follows T_ok tab5_ok 4
end Go.Proofs.YtegeffampgdibaaGreat

namespace Go.Proofs.YtegeffampgdibaaGreat
open Go.Vm Go.Shelf Go.Proofs
set_option maxRecDepth 100000
set_option linter.unusedVariables false
def Tryz.cloneM_ren : Go.Shelf.Ren := ⟨fun | 5 => 90 | 7 => 107 | n => n, fun | 23 => 79 | 25 => 58 | 3 => 56 | 4 => 4 | 20 => 20 | n => n, fun | n => n⟩
theorem Tryz.cloneM : Go.Proofs.SlLaysW.n5 Tryz.prog Tryz.cloneM_ren := {
  mixed := by kernel_rfl
  f5 := ⟨Tryz.f90.name, by decide, Tryz.func90.trans (congrArg some (by kernel_rfl))⟩
  f7 := Tryz.func107.trans (congrArg some (by kernel_rfl))
  t4 := Tryz.underlying4
  a4 := Tryz.isAgg4
  z4 := Tryz.sizeOf4
  v4 := Tryz.zeroValue4
  t20 := Tryz.underlying20
  a20 := Tryz.isAgg20
  z20 := Tryz.sizeOf20
  v20 := Tryz.zeroValue20
  t23 := Tryz.underlying79
  a23 := Tryz.isAgg79
  z23 := Tryz.sizeOf79
  v23 := Tryz.zeroValue79 }

theorem clones0 : Clones Tryz.prog 90 := fun b es clock w hb => AnyW.maps_Clone Tryz.cloneM b es clock w hb
theorem clonesK0 : SymOK Tryz.prog T 90 cloneK := cloneK_ok clones0 (fun args w => enters_of Tryz.func90 (by kernel_rfl) rfl args w)
end Go.Proofs.YtegeffampgdibaaGreat

namespace Go.Proofs.YtegeffampgdibaaGreat
open Go.Vm
set_option maxRecDepth 100000
set_option linter.unusedVariables false
noncomputable def tabM0 : List (Nat × Sym) := [(115, (pureS T false [183, 38] (seeF (Fmx 183))).dir), (52, (pureS T false [38] (seeF (Fsm 44))).dir), (180, carry64), (181, borrow64), (90, cloneK)]
theorem tabM0_ok : AllS Tryz.prog T tabM0 := ⟨TabOK.see (TabOK.at tab3_ok (by kernel_rfl)), TabOK.see (TabOK.at tab5_ok (by kernel_rfl)), carry64_ok Tryz.func180 (by kernel_rfl) (by kernel_rfl) (by kernel_rfl) (by kernel_rfl), borrow64_ok Tryz.func181 (by kernel_rfl) (by kernel_rfl) (by kernel_rfl) (by kernel_rfl), clonesK0, trivial⟩
def x0_0 : List V := [.l [bl [0, 0, 0, 0, 1, 0, 0, 0, 0, 0, 0, 0, 0, 0, 0, 0, 0, 0, 0, 0, 0, 0, 0, 0, 0, 0, 0, 0, 0, 0, 0, 0, 0, 0, 0, 0, 0, 1, 0, 0, 0, 0, 0, 0, 0, 0, 1, 7, 0, 0, 0, 0, 0, 0, 0, 1, 84, 0, 0, 0, 0]]]
def r0_0 : List Rs := [.d 44 (bl [22, 137, 13, 149, 134, 109, 98, 75, 48, 198, 67, 246, 125, 184, 0, 18, 46, 218, 155, 200, 130, 158, 203, 59, 80, 45, 208, 214, 9, 136, 59, 124])]
theorem mm0_0 : ob (runZ Tryz.prog T tabM0 100000 60 78 (mkAs T [135] x0_0) (fun _ => none) 0) (fun out => resC T false [.d 44] out) = some r0_0 := by kernel_rfl
def x0_1 : List V := [.l [bl [22, 137, 13, 149, 134, 109, 98, 75, 48, 198, 67, 246, 125, 184, 0, 18, 46, 218, 155, 200, 130, 158, 203, 59, 80, 45, 208, 214, 9, 136, 59, 124]]]
def r0_1 : List Rs := [.d 44 (bl [183, 151, 51, 14, 133, 176, 214, 81, 154, 236, 25, 137, 251, 233, 29, 221, 36, 165, 31, 231, 233, 36, 185, 66, 175, 220, 23, 180, 56, 35, 226, 182])]
theorem mm0_1 : ob (runZ Tryz.prog T tabM0 100000 60 78 (mkAs T [135] x0_1) (fun _ => none) 0) (fun out => resC T false [.d 44] out) = some r0_1 := by kernel_rfl
def x0_2 : List V := [.l [bl [0, 0, 0, 0, 1, 0, 0, 0, 0, 0, 0, 0, 0, 0, 0, 0, 0, 0, 0, 0, 0, 0, 0, 0, 0, 0, 0, 0, 0, 0, 0, 0, 0, 0, 0, 0, 0, 1, 0, 0, 0, 1, 84, 0, 0, 0, 0, 1, 7, 0, 0, 0, 0, 0, 0, 0, 1, 84, 0, 0, 0, 0, 0, 0, 0, 0]]]
def r0_2 : List Rs := [.d 44 (bl [121, 194, 216, 53, 196, 231, 127, 29, 170, 49, 223, 24, 188, 197, 72, 239, 111, 136, 55, 44, 89, 203, 134, 101, 164, 225, 121, 101, 137, 209, 249, 234])]
theorem mm0_2 : ob (runZ Tryz.prog T tabM0 100000 60 78 (mkAs T [135] x0_2) (fun _ => none) 0) (fun out => resC T false [.d 44] out) = some r0_2 := by kernel_rfl
def x0_3 : List V := [.l [bl [121, 194, 216, 53, 196, 231, 127, 29, 170, 49, 223, 24, 188, 197, 72, 239, 111, 136, 55, 44, 89, 203, 134, 101, 164, 225, 121, 101, 137, 209, 249, 234]]]
def r0_3 : List Rs := [.d 44 (bl [253, 90, 71, 101, 245, 48, 96, 140, 237, 57, 160, 51, 141, 150, 249, 88, 216, 165, 216, 30, 10, 100, 254, 240, 242, 145, 135, 62, 72, 47, 118, 72])]
theorem mm0_3 : ob (runZ Tryz.prog T tabM0 100000 60 78 (mkAs T [135] x0_3) (fun _ => none) 0) (fun out => resC T false [.d 44] out) = some r0_3 := by kernel_rfl
def x0_4 : List V := [.l [bl [0, 0, 0, 0, 1, 0, 0, 0, 0, 0, 0, 0, 0, 0, 0, 0, 0, 0, 0, 0, 0, 0, 0, 0, 0, 0, 0, 0, 0, 0, 0, 0, 0, 0, 0, 0, 0, 1, 0, 0, 0, 0, 0, 0, 0, 0, 1, 8, 0, 0, 0, 0, 0, 0, 0, 1, 84, 0, 0, 0, 0]]]
def r0_4 : List Rs := [.d 44 (bl [241, 212, 73, 51, 152, 223, 21, 184, 7, 221, 84, 169, 57, 59, 36, 244, 211, 184, 75, 32, 199, 220, 93, 248, 54, 80, 16, 221, 203, 231, 243, 39])]
theorem mm0_4 : ob (runZ Tryz.prog T tabM0 100000 60 78 (mkAs T [135] x0_4) (fun _ => none) 0) (fun out => resC T false [.d 44] out) = some r0_4 := by kernel_rfl
def x0_5 : List V := [.l [bl [241, 212, 73, 51, 152, 223, 21, 184, 7, 221, 84, 169, 57, 59, 36, 244, 211, 184, 75, 32, 199, 220, 93, 248, 54, 80, 16, 221, 203, 231, 243, 39]]]
def r0_5 : List Rs := [.d 44 (bl [127, 130, 7, 146, 102, 250, 57, 113, 118, 158, 86, 245, 247, 140, 133, 4, 151, 95, 9, 58, 232, 76, 136, 248, 153, 44, 137, 150, 252, 146, 90, 252])]
theorem mm0_5 : ob (runZ Tryz.prog T tabM0 100000 60 78 (mkAs T [135] x0_5) (fun _ => none) 0) (fun out => resC T false [.d 44] out) = some r0_5 := by kernel_rfl
def x0_6 : List V := [.l [bl [0, 0, 0, 0, 1, 0, 0, 0, 0, 0, 0, 0, 0, 0, 0, 0, 0, 0, 0, 0, 0, 0, 0, 0, 0, 0, 0, 0, 0, 0, 0, 0, 0, 0, 0, 0, 0, 2, 0, 0, 0, 0, 0, 0, 0, 0, 1, 7, 0, 0, 0, 0, 0, 0, 0, 1, 84, 0, 0, 0, 0]]]
def r0_6 : List Rs := [.d 44 (bl [222, 232, 136, 239, 122, 49, 88, 181, 136, 89, 245, 227, 233, 82, 211, 201, 30, 115, 158, 46, 164, 78, 234, 112, 238, 226, 165, 53, 6, 176, 216, 226])]
theorem mm0_6 : ob (runZ Tryz.prog T tabM0 100000 60 78 (mkAs T [135] x0_6) (fun _ => none) 0) (fun out => resC T false [.d 44] out) = some r0_6 := by kernel_rfl
def x0_7 : List V := [.l [bl [222, 232, 136, 239, 122, 49, 88, 181, 136, 89, 245, 227, 233, 82, 211, 201, 30, 115, 158, 46, 164, 78, 234, 112, 238, 226, 165, 53, 6, 176, 216, 226]]]
def r0_7 : List Rs := [.d 44 (bl [246, 16, 68, 186, 242, 169, 71, 218, 206, 194, 35, 44, 228, 193, 119, 94, 9, 102, 144, 14, 65, 250, 116, 197, 30, 255, 3, 107, 225, 9, 69, 18])]
theorem mm0_7 : ob (runZ Tryz.prog T tabM0 100000 60 78 (mkAs T [135] x0_7) (fun _ => none) 0) (fun out => resC T false [.d 44] out) = some r0_7 := by kernel_rfl
def x0_8 : List V := [.l [bl [0, 0, 0, 0, 1, 0, 0, 0, 0, 0, 0, 0, 0, 0, 0, 0, 0, 0, 0, 0, 0, 0, 0, 0, 0, 0, 0, 0, 0, 0, 0, 0, 0, 0, 0, 0, 0, 2, 0, 0, 0, 1, 84, 0, 0, 0, 0, 1, 7, 0, 0, 0, 0, 0, 0, 0, 1, 84, 0, 0, 0, 0, 0, 0, 0, 0]]]
def r0_8 : List Rs := [.d 44 (bl [53, 240, 77, 76, 30, 163, 205, 19, 230, 8, 216, 119, 33, 1, 45, 242, 183, 221, 26, 232, 76, 73, 139, 25, 43, 251, 235, 56, 134, 13, 53, 231])]
theorem mm0_8 : ob (runZ Tryz.prog T tabM0 100000 60 78 (mkAs T [135] x0_8) (fun _ => none) 0) (fun out => resC T false [.d 44] out) = some r0_8 := by kernel_rfl
def x0_9 : List V := [.l [bl [53, 240, 77, 76, 30, 163, 205, 19, 230, 8, 216, 119, 33, 1, 45, 242, 183, 221, 26, 232, 76, 73, 139, 25, 43, 251, 235, 56, 134, 13, 53, 231]]]
def r0_9 : List Rs := [.d 44 (bl [239, 52, 203, 5, 173, 238, 120, 19, 141, 39, 179, 148, 188, 74, 81, 21, 92, 23, 23, 52, 226, 105, 140, 11, 146, 26, 223, 74, 199, 177, 175, 211])]
theorem mm0_9 : ob (runZ Tryz.prog T tabM0 100000 60 78 (mkAs T [135] x0_9) (fun _ => none) 0) (fun out => resC T false [.d 44] out) = some r0_9 := by kernel_rfl
def x0_10 : List V := [.l [bl [0, 0, 0, 0, 1, 0, 0, 0, 0, 0, 0, 0, 0, 0, 0, 0, 0, 0, 0, 0, 0, 0, 0, 0, 0, 0, 0, 0, 0, 0, 0, 0, 0, 0, 0, 0, 0, 3, 0, 0, 0, 0, 0, 0, 0, 0, 1, 7, 0, 0, 0, 0, 0, 0, 0, 1, 84, 0, 0, 0, 0]]]
def r0_10 : List Rs := [.d 44 (bl [240, 27, 148, 107, 202, 203, 197, 22, 167, 147, 41, 110, 168, 39, 217, 244, 159, 247, 93, 223, 122, 116, 105, 143, 103, 142, 9, 54, 55, 143, 182, 218])]
theorem mm0_10 : ob (runZ Tryz.prog T tabM0 100000 60 78 (mkAs T [135] x0_10) (fun _ => none) 0) (fun out => resC T false [.d 44] out) = some r0_10 := by kernel_rfl
def x0_11 : List V := [.l [bl [240, 27, 148, 107, 202, 203, 197, 22, 167, 147, 41, 110, 168, 39, 217, 244, 159, 247, 93, 223, 122, 116, 105, 143, 103, 142, 9, 54, 55, 143, 182, 218]]]
def r0_11 : List Rs := [.d 44 (bl [245, 20, 229, 196, 20, 136, 62, 90, 147, 149, 109, 18, 215, 117, 219, 193, 69, 233, 233, 149, 11, 236, 124, 249, 229, 89, 60, 138, 103, 150, 235, 234])]
theorem mm0_11 : ob (runZ Tryz.prog T tabM0 100000 60 78 (mkAs T [135] x0_11) (fun _ => none) 0) (fun out => resC T false [.d 44] out) = some r0_11 := by kernel_rfl
noncomputable def tb0 : List (List V × List Rs) := [(x0_0, r0_0), (x0_1, r0_1), (x0_2, r0_2), (x0_3, r0_3), (x0_4, r0_4), (x0_5, r0_5), (x0_6, r0_6), (x0_7, r0_7), (x0_8, r0_8), (x0_9, r0_9), (x0_10, r0_10), (x0_11, r0_11)]
theorem mem0 : SymOK Tryz.prog T 78 (pureS T false [135] (memF tb0)).dir := memo_ok (rk := [.d 44]) (runZ_ok (fu := 100000) (d := 60) follows T_ok tabM0_ok) (by kernel_rfl) ⟨mm0_0, mm0_1, mm0_2, mm0_3, mm0_4, mm0_5, mm0_6, mm0_7, mm0_8, mm0_9, mm0_10, mm0_11, trivial⟩
noncomputable def tabM1 : List (Nat × Sym) := (78, (pureS T false [135] (memF tb0)).dir) :: tabM0
theorem tabM1_ok : AllS Tryz.prog T tabM1 := ⟨mem0, tabM0_ok⟩
def x1_0 : List V := [.l [.i 0, .l [.l [.l [bl [0, 0, 0, 0, 0, 0, 0, 0, 0, 0, 0, 0, 0, 0, 0, 0, 0, 0, 0, 0, 0, 0, 0, 0, 0, 0, 0, 0, 0, 0, 0, 0], .i 1], .n, .i 0]], .l [.l [.i 7, .l [.i 84]]], .i 0]]
def r1_0 : List Rs := [.r 5 (bl [0, 0, 0, 0, 1, 0, 0, 0, 0, 0, 0, 0, 0, 0, 0, 0, 0, 0, 0, 0, 0, 0, 0, 0, 0, 0, 0, 0, 0, 0, 0, 0, 0, 0, 0, 0, 0, 1, 0, 0, 0, 0, 0, 0, 0, 0, 1, 7, 0, 0, 0, 0, 0, 0, 0, 1, 84, 0, 0, 0, 0] : V).els false]
theorem mm1_0 : ob (runZ Tryz.prog T tabM1 100000 60 21 (mkAs T [35] x1_0) (fun _ => none) 0) (fun out => resC T false [.r 5] out) = some r1_0 := by kernel_rfl
def x1_1 : List V := [.l [.i 0, .l [.l [.l [bl [0, 0, 0, 0, 0, 0, 0, 0, 0, 0, 0, 0, 0, 0, 0, 0, 0, 0, 0, 0, 0, 0, 0, 0, 0, 0, 0, 0, 0, 0, 0, 0], .i 1], .l [.i 84], .i 0]], .l [.l [.i 7, .l [.i 84]]], .i 0]]
def r1_1 : List Rs := [.r 5 (bl [0, 0, 0, 0, 1, 0, 0, 0, 0, 0, 0, 0, 0, 0, 0, 0, 0, 0, 0, 0, 0, 0, 0, 0, 0, 0, 0, 0, 0, 0, 0, 0, 0, 0, 0, 0, 0, 1, 0, 0, 0, 1, 84, 0, 0, 0, 0, 1, 7, 0, 0, 0, 0, 0, 0, 0, 1, 84, 0, 0, 0, 0] : V).els false]
theorem mm1_1 : ob (runZ Tryz.prog T tabM1 100000 60 21 (mkAs T [35] x1_1) (fun _ => none) 0) (fun out => resC T false [.r 5] out) = some r1_1 := by kernel_rfl
def x1_2 : List V := [.l [.i 0, .l [.l [.l [bl [0, 0, 0, 0, 0, 0, 0, 0, 0, 0, 0, 0, 0, 0, 0, 0, 0, 0, 0, 0, 0, 0, 0, 0, 0, 0, 0, 0, 0, 0, 0, 0], .i 1], .n, .i 0]], .l [.l [.i 8, .l [.i 84]]], .i 0]]
def r1_2 : List Rs := [.r 5 (bl [0, 0, 0, 0, 1, 0, 0, 0, 0, 0, 0, 0, 0, 0, 0, 0, 0, 0, 0, 0, 0, 0, 0, 0, 0, 0, 0, 0, 0, 0, 0, 0, 0, 0, 0, 0, 0, 1, 0, 0, 0, 0, 0, 0, 0, 0, 1, 8, 0, 0, 0, 0, 0, 0, 0, 1, 84, 0, 0, 0, 0] : V).els false]
theorem mm1_2 : ob (runZ Tryz.prog T tabM1 100000 60 21 (mkAs T [35] x1_2) (fun _ => none) 0) (fun out => resC T false [.r 5] out) = some r1_2 := by kernel_rfl
def x1_3 : List V := [.l [.i 0, .l [.l [.l [bl [0, 0, 0, 0, 0, 0, 0, 0, 0, 0, 0, 0, 0, 0, 0, 0, 0, 0, 0, 0, 0, 0, 0, 0, 0, 0, 0, 0, 0, 0, 0, 0], .i 2], .n, .i 0]], .l [.l [.i 7, .l [.i 84]]], .i 0]]
def r1_3 : List Rs := [.r 5 (bl [0, 0, 0, 0, 1, 0, 0, 0, 0, 0, 0, 0, 0, 0, 0, 0, 0, 0, 0, 0, 0, 0, 0, 0, 0, 0, 0, 0, 0, 0, 0, 0, 0, 0, 0, 0, 0, 2, 0, 0, 0, 0, 0, 0, 0, 0, 1, 7, 0, 0, 0, 0, 0, 0, 0, 1, 84, 0, 0, 0, 0] : V).els false]
theorem mm1_3 : ob (runZ Tryz.prog T tabM1 100000 60 21 (mkAs T [35] x1_3) (fun _ => none) 0) (fun out => resC T false [.r 5] out) = some r1_3 := by kernel_rfl
def x1_4 : List V := [.l [.i 0, .l [.l [.l [bl [0, 0, 0, 0, 0, 0, 0, 0, 0, 0, 0, 0, 0, 0, 0, 0, 0, 0, 0, 0, 0, 0, 0, 0, 0, 0, 0, 0, 0, 0, 0, 0], .i 2], .l [.i 84], .i 0]], .l [.l [.i 7, .l [.i 84]]], .i 0]]
def r1_4 : List Rs := [.r 5 (bl [0, 0, 0, 0, 1, 0, 0, 0, 0, 0, 0, 0, 0, 0, 0, 0, 0, 0, 0, 0, 0, 0, 0, 0, 0, 0, 0, 0, 0, 0, 0, 0, 0, 0, 0, 0, 0, 2, 0, 0, 0, 1, 84, 0, 0, 0, 0, 1, 7, 0, 0, 0, 0, 0, 0, 0, 1, 84, 0, 0, 0, 0] : V).els false]
theorem mm1_4 : ob (runZ Tryz.prog T tabM1 100000 60 21 (mkAs T [35] x1_4) (fun _ => none) 0) (fun out => resC T false [.r 5] out) = some r1_4 := by kernel_rfl
def x1_5 : List V := [.l [.i 0, .l [.l [.l [bl [0, 0, 0, 0, 0, 0, 0, 0, 0, 0, 0, 0, 0, 0, 0, 0, 0, 0, 0, 0, 0, 0, 0, 0, 0, 0, 0, 0, 0, 0, 0, 0], .i 3], .n, .i 0]], .l [.l [.i 7, .l [.i 84]]], .i 0]]
def r1_5 : List Rs := [.r 5 (bl [0, 0, 0, 0, 1, 0, 0, 0, 0, 0, 0, 0, 0, 0, 0, 0, 0, 0, 0, 0, 0, 0, 0, 0, 0, 0, 0, 0, 0, 0, 0, 0, 0, 0, 0, 0, 0, 3, 0, 0, 0, 0, 0, 0, 0, 0, 1, 7, 0, 0, 0, 0, 0, 0, 0, 1, 84, 0, 0, 0, 0] : V).els false]
theorem mm1_5 : ob (runZ Tryz.prog T tabM1 100000 60 21 (mkAs T [35] x1_5) (fun _ => none) 0) (fun out => resC T false [.r 5] out) = some r1_5 := by kernel_rfl
def x1_6 : List V := [.l [.i 0, .n, .n, .i 0]]
def r1_6 : List Rs := [.r 5 (bl [0, 0, 0, 0, 0, 0, 0, 0, 0, 0] : V).els false]
theorem mm1_6 : ob (runZ Tryz.prog T tabM1 100000 60 21 (mkAs T [35] x1_6) (fun _ => none) 0) (fun out => resC T false [.r 5] out) = some r1_6 := by kernel_rfl
noncomputable def tb1 : List (List V × List Rs) := [(x1_0, r1_0), (x1_1, r1_1), (x1_2, r1_2), (x1_3, r1_3), (x1_4, r1_4), (x1_5, r1_5), (x1_6, r1_6)]
theorem mem1 : SymOK Tryz.prog T 21 (pureS T false [35] (memF tb1)).dir := memo_ok (rk := [.r 5]) (runZ_ok (fu := 100000) (d := 60) follows T_ok tabM1_ok) (by kernel_rfl) ⟨mm1_0, mm1_1, mm1_2, mm1_3, mm1_4, mm1_5, mm1_6, trivial⟩
noncomputable def tabM2 : List (Nat × Sym) := (21, (pureS T false [35] (memF tb1)).dir) :: tabM1
theorem tabM2_ok : AllS Tryz.prog T tabM2 := ⟨mem1, tabM1_ok⟩
def x2_0 : List V := [bl [0, 0, 0, 0, 1, 0, 0, 0, 0, 0, 0, 0, 0, 0, 0, 0, 0, 0, 0, 0, 0, 0, 0, 0, 0, 0, 0, 0, 0, 0, 0, 0, 0, 0, 0, 0, 0, 1, 0, 0, 0, 0, 0, 0, 0, 0, 1, 7, 0, 0, 0, 0, 0, 0, 0, 1, 84, 0, 0, 0, 0]]
def r2_0 : List Rs := [.d 35 (.l [.i 0, .l [.l [.l [bl [0, 0, 0, 0, 0, 0, 0, 0, 0, 0, 0, 0, 0, 0, 0, 0, 0, 0, 0, 0, 0, 0, 0, 0, 0, 0, 0, 0, 0, 0, 0, 0], .i 1], .n, .i 0]], .l [.l [.i 7, .l [.i 84]]], .i 0]), .d 29 (.i 0)]
theorem mm2_0 : ob (runZ Tryz.prog T tabM2 100000 60 33 (mkAs T [38] x2_0) (fun _ => none) 0) (fun out => resC T true [.d 35, .d 29] out) = some r2_0 := by kernel_rfl
def x2_1 : List V := [bl [0, 0, 0, 0, 1, 0, 0, 0, 0, 0, 0, 0, 0, 0, 0, 0, 0, 0, 0, 0, 0, 0, 0, 0, 0, 0, 0, 0, 0, 0, 0, 0, 0, 0, 0, 0, 0, 1, 0, 0, 0, 0, 0, 0, 0, 0, 1, 8, 0, 0, 0, 0, 0, 0, 0, 1, 84, 0, 0, 0, 0]]
def r2_1 : List Rs := [.d 35 (.l [.i 0, .l [.l [.l [bl [0, 0, 0, 0, 0, 0, 0, 0, 0, 0, 0, 0, 0, 0, 0, 0, 0, 0, 0, 0, 0, 0, 0, 0, 0, 0, 0, 0, 0, 0, 0, 0], .i 1], .n, .i 0]], .l [.l [.i 8, .l [.i 84]]], .i 0]), .d 29 (.i 0)]
theorem mm2_1 : ob (runZ Tryz.prog T tabM2 100000 60 33 (mkAs T [38] x2_1) (fun _ => none) 0) (fun out => resC T true [.d 35, .d 29] out) = some r2_1 := by kernel_rfl
def x2_2 : List V := [bl [0, 0, 0, 0, 1, 0, 0, 0, 0, 0, 0, 0, 0, 0, 0, 0, 0, 0, 0, 0, 0, 0, 0, 0, 0, 0, 0, 0, 0, 0, 0, 0, 0, 0, 0, 0, 0, 2, 0, 0, 0, 0, 0, 0, 0, 0, 1, 7, 0, 0, 0, 0, 0, 0, 0, 1, 84, 0, 0, 0, 0]]
def r2_2 : List Rs := [.d 35 (.l [.i 0, .l [.l [.l [bl [0, 0, 0, 0, 0, 0, 0, 0, 0, 0, 0, 0, 0, 0, 0, 0, 0, 0, 0, 0, 0, 0, 0, 0, 0, 0, 0, 0, 0, 0, 0, 0], .i 2], .n, .i 0]], .l [.l [.i 7, .l [.i 84]]], .i 0]), .d 29 (.i 0)]
theorem mm2_2 : ob (runZ Tryz.prog T tabM2 100000 60 33 (mkAs T [38] x2_2) (fun _ => none) 0) (fun out => resC T true [.d 35, .d 29] out) = some r2_2 := by kernel_rfl
def x2_3 : List V := [bl [0, 0, 0, 0, 1, 0, 0, 0, 0, 0, 0, 0, 0, 0, 0, 0, 0, 0, 0, 0, 0, 0, 0, 0, 0, 0, 0, 0, 0, 0, 0, 0, 0, 0, 0, 0, 0, 3, 0, 0, 0, 0, 0, 0, 0, 0, 1, 7, 0, 0, 0, 0, 0, 0, 0, 1, 84, 0, 0, 0, 0]]
def r2_3 : List Rs := [.d 35 (.l [.i 0, .l [.l [.l [bl [0, 0, 0, 0, 0, 0, 0, 0, 0, 0, 0, 0, 0, 0, 0, 0, 0, 0, 0, 0, 0, 0, 0, 0, 0, 0, 0, 0, 0, 0, 0, 0], .i 3], .n, .i 0]], .l [.l [.i 7, .l [.i 84]]], .i 0]), .d 29 (.i 0)]
theorem mm2_3 : ob (runZ Tryz.prog T tabM2 100000 60 33 (mkAs T [38] x2_3) (fun _ => none) 0) (fun out => resC T true [.d 35, .d 29] out) = some r2_3 := by kernel_rfl
def x2_4 : List V := [bl [0, 0, 0, 0, 0, 0, 0, 0, 0, 0]]
def r2_4 : List Rs := [.d 35 (.l [.i 0, .n, .n, .i 0]), .d 29 (.i 0)]
theorem mm2_4 : ob (runZ Tryz.prog T tabM2 100000 60 33 (mkAs T [38] x2_4) (fun _ => none) 0) (fun out => resC T true [.d 35, .d 29] out) = some r2_4 := by kernel_rfl
noncomputable def tb2 : List (List V × List Rs) := [(x2_0, r2_0), (x2_1, r2_1), (x2_2, r2_2), (x2_3, r2_3), (x2_4, r2_4)]
theorem mem2 : SymOK Tryz.prog T 33 (pureS T true [38] (memF tb2)).dir := memo_ok (rk := [.d 35, .d 29]) (runZ_ok (fu := 100000) (d := 60) follows T_ok tabM2_ok) (by kernel_rfl) ⟨mm2_0, mm2_1, mm2_2, mm2_3, mm2_4, trivial⟩
noncomputable def tabM3 : List (Nat × Sym) := (33, (pureS T true [38] (memF tb2)).dir) :: tabM2
theorem tabM3_ok : AllS Tryz.prog T tabM3 := ⟨mem2, tabM2_ok⟩
def x3_0 : List V := [.l [.i 0, .l [.l [.l [bl [0, 0, 0, 0, 0, 0, 0, 0, 0, 0, 0, 0, 0, 0, 0, 0, 0, 0, 0, 0, 0, 0, 0, 0, 0, 0, 0, 0, 0, 0, 0, 0], .i 1], .n, .i 0]], .l [.l [.i 7, .l [.i 84]]], .i 0]]
def r3_0 : List Rs := [.d 44 (bl [183, 151, 51, 14, 133, 176, 214, 81, 154, 236, 25, 137, 251, 233, 29, 221, 36, 165, 31, 231, 233, 36, 185, 66, 175, 220, 23, 180, 56, 35, 226, 182])]
theorem mm3_0 : ob (runZ Tryz.prog T tabM3 100000 60 14 (mkAs T [35] x3_0) (fun _ => none) 0) (fun out => resC T false [.d 44] out) = some r3_0 := by kernel_rfl
noncomputable def tb3 : List (List V × List Rs) := [(x3_0, r3_0)]
theorem mem3 : SymOK Tryz.prog T 14 (pureS T false [35] (memF tb3)).dir := memo_ok (rk := [.d 44]) (runZ_ok (fu := 100000) (d := 60) follows T_ok tabM3_ok) (by kernel_rfl) ⟨mm3_0, trivial⟩
noncomputable def tabM4 : List (Nat × Sym) := (14, (pureS T false [35] (memF tb3)).dir) :: tabM3
theorem tabM4_ok : AllS Tryz.prog T tabM4 := ⟨mem3, tabM3_ok⟩
def x4_0 : List V := [.l [.i 0, .l [.l [.l [bl [0, 0, 0, 0, 0, 0, 0, 0, 0, 0, 0, 0, 0, 0, 0, 0, 0, 0, 0, 0, 0, 0, 0, 0, 0, 0, 0, 0, 0, 0, 0, 0], .i 1], .n, .i 0]], .l [.l [.i 7, .l [.i 84]]], .i 0]]
def r4_0 : List Rs := [.d 44 (bl [183, 151, 51, 14, 133, 176, 214, 81, 154, 236, 25, 137, 251, 233, 29, 221, 36, 165, 31, 231, 233, 36, 185, 66, 175, 220, 23, 180, 56, 35, 226, 182])]
theorem mm4_0 : ob (runZ Tryz.prog T tabM4 100000 60 30 (mkAs T [35] x4_0) (fun _ => none) 0) (fun out => resC T false [.d 44] out) = some r4_0 := by kernel_rfl
def x4_1 : List V := [.l [.i 0, .l [.l [.l [bl [0, 0, 0, 0, 0, 0, 0, 0, 0, 0, 0, 0, 0, 0, 0, 0, 0, 0, 0, 0, 0, 0, 0, 0, 0, 0, 0, 0, 0, 0, 0, 0], .i 1], .n, .i 0]], .l [.l [.i 8, .l [.i 84]]], .i 0]]
def r4_1 : List Rs := [.d 44 (bl [127, 130, 7, 146, 102, 250, 57, 113, 118, 158, 86, 245, 247, 140, 133, 4, 151, 95, 9, 58, 232, 76, 136, 248, 153, 44, 137, 150, 252, 146, 90, 252])]
theorem mm4_1 : ob (runZ Tryz.prog T tabM4 100000 60 30 (mkAs T [35] x4_1) (fun _ => none) 0) (fun out => resC T false [.d 44] out) = some r4_1 := by kernel_rfl
def x4_2 : List V := [.l [.i 0, .l [.l [.l [bl [0, 0, 0, 0, 0, 0, 0, 0, 0, 0, 0, 0, 0, 0, 0, 0, 0, 0, 0, 0, 0, 0, 0, 0, 0, 0, 0, 0, 0, 0, 0, 0], .i 2], .n, .i 0]], .l [.l [.i 7, .l [.i 84]]], .i 0]]
def r4_2 : List Rs := [.d 44 (bl [246, 16, 68, 186, 242, 169, 71, 218, 206, 194, 35, 44, 228, 193, 119, 94, 9, 102, 144, 14, 65, 250, 116, 197, 30, 255, 3, 107, 225, 9, 69, 18])]
theorem mm4_2 : ob (runZ Tryz.prog T tabM4 100000 60 30 (mkAs T [35] x4_2) (fun _ => none) 0) (fun out => resC T false [.d 44] out) = some r4_2 := by kernel_rfl
def x4_3 : List V := [.l [.i 0, .l [.l [.l [bl [0, 0, 0, 0, 0, 0, 0, 0, 0, 0, 0, 0, 0, 0, 0, 0, 0, 0, 0, 0, 0, 0, 0, 0, 0, 0, 0, 0, 0, 0, 0, 0], .i 3], .n, .i 0]], .l [.l [.i 7, .l [.i 84]]], .i 0]]
def r4_3 : List Rs := [.d 44 (bl [245, 20, 229, 196, 20, 136, 62, 90, 147, 149, 109, 18, 215, 117, 219, 193, 69, 233, 233, 149, 11, 236, 124, 249, 229, 89, 60, 138, 103, 150, 235, 234])]
theorem mm4_3 : ob (runZ Tryz.prog T tabM4 100000 60 30 (mkAs T [35] x4_3) (fun _ => none) 0) (fun out => resC T false [.d 44] out) = some r4_3 := by kernel_rfl
noncomputable def tb4 : List (List V × List Rs) := [(x4_0, r4_0), (x4_1, r4_1), (x4_2, r4_2), (x4_3, r4_3)]
theorem mem4 : SymOK Tryz.prog T 30 (pureS T false [35] (memF tb4)).dir := memo_ok (rk := [.d 44]) (runZ_ok (fu := 100000) (d := 60) follows T_ok tabM4_ok) (by kernel_rfl) ⟨mm4_0, mm4_1, mm4_2, mm4_3, trivial⟩
noncomputable def tabM5 : List (Nat × Sym) := (30, (pureS T false [35] (memF tb4)).dir) :: tabM4
theorem tabM5_ok : AllS Tryz.prog T tabM5 := ⟨mem4, tabM4_ok⟩
def x5_0 : List V := [.l [.i 0, .l [.l [.l [bl [0, 0, 0, 0, 0, 0, 0, 0, 0, 0, 0, 0, 0, 0, 0, 0, 0, 0, 0, 0, 0, 0, 0, 0, 0, 0, 0, 0, 0, 0, 0, 0], .i 1], .n, .i 0]], .l [.l [.i 7, .l [.i 84]]], .i 0], .i 0, .l [.i 84]]
def r5_0 : List Rs := [.d 44 (bl [253, 90, 71, 101, 245, 48, 96, 140, 237, 57, 160, 51, 141, 150, 249, 88, 216, 165, 216, 30, 10, 100, 254, 240, 242, 145, 135, 62, 72, 47, 118, 72])]
theorem mm5_0 : ob (runZ Tryz.prog T tabM5 100000 60 71 (mkAs T [35, 3, 38] x5_0) (fun _ => none) 0) (fun out => resC T false [.d 44] out) = some r5_0 := by kernel_rfl
def x5_1 : List V := [.l [.i 0, .l [.l [.l [bl [0, 0, 0, 0, 0, 0, 0, 0, 0, 0, 0, 0, 0, 0, 0, 0, 0, 0, 0, 0, 0, 0, 0, 0, 0, 0, 0, 0, 0, 0, 0, 0], .i 2], .n, .i 0]], .l [.l [.i 7, .l [.i 84]]], .i 0], .i 0, .l [.i 84]]
def r5_1 : List Rs := [.d 44 (bl [239, 52, 203, 5, 173, 238, 120, 19, 141, 39, 179, 148, 188, 74, 81, 21, 92, 23, 23, 52, 226, 105, 140, 11, 146, 26, 223, 74, 199, 177, 175, 211])]
theorem mm5_1 : ob (runZ Tryz.prog T tabM5 100000 60 71 (mkAs T [35, 3, 38] x5_1) (fun _ => none) 0) (fun out => resC T false [.d 44] out) = some r5_1 := by kernel_rfl
noncomputable def tb5 : List (List V × List Rs) := [(x5_0, r5_0), (x5_1, r5_1)]
theorem mem5 : SymOK Tryz.prog T 71 (pureS T false [35, 3, 38] (memF tb5)).dir := memo_ok (rk := [.d 44]) (runZ_ok (fu := 100000) (d := 60) follows T_ok tabM5_ok) (by kernel_rfl) ⟨mm5_0, mm5_1, trivial⟩
noncomputable def tabM6 : List (Nat × Sym) := (71, (pureS T false [35, 3, 38] (memF tb5)).dir) :: tabM5
theorem tabM6_ok : AllS Tryz.prog T tabM6 := ⟨mem5, tabM5_ok⟩
def x6_0 : List V := [.l [.i 0, .l [.l [.l [bl [0, 0, 0, 0, 0, 0, 0, 0, 0, 0, 0, 0, 0, 0, 0, 0, 0, 0, 0, 0, 0, 0, 0, 0, 0, 0, 0, 0, 0, 0, 0, 0], .i 1], .n, .i 0]], .l [.l [.i 7, .l [.i 84]]], .i 0]]
def r6_0 : List Rs := [.d 96 (.l [.i 0, .s [], .s [], .s [], bl [0, 0, 0, 0, 0, 0, 0, 0, 0, 0, 0, 0, 0, 0, 0, 0, 0, 0, 0, 0]]), .d 3 (.i (-1)), .d 29 (.i 0)]
theorem mm6_0 : ob (runZ Tryz.prog T tabM6 100000 60 60 (mkAs T [35] x6_0) (fun _ => none) 0) (fun out => resC T false [.d 96, .d 3, .d 29] out) = some r6_0 := by kernel_rfl
def x6_1 : List V := [.l [.i 0, .l [.l [.l [bl [0, 0, 0, 0, 0, 0, 0, 0, 0, 0, 0, 0, 0, 0, 0, 0, 0, 0, 0, 0, 0, 0, 0, 0, 0, 0, 0, 0, 0, 0, 0, 0], .i 1], .n, .i 0]], .l [.l [.i 8, .l [.i 84]]], .i 0]]
def r6_1 : List Rs := [.d 96 (.l [.i 0, .s [], .s [], .s [], bl [0, 0, 0, 0, 0, 0, 0, 0, 0, 0, 0, 0, 0, 0, 0, 0, 0, 0, 0, 0]]), .d 3 (.i (-1)), .d 29 (.i 0)]
theorem mm6_1 : ob (runZ Tryz.prog T tabM6 100000 60 60 (mkAs T [35] x6_1) (fun _ => none) 0) (fun out => resC T false [.d 96, .d 3, .d 29] out) = some r6_1 := by kernel_rfl
def x6_2 : List V := [.l [.i 0, .l [.l [.l [bl [0, 0, 0, 0, 0, 0, 0, 0, 0, 0, 0, 0, 0, 0, 0, 0, 0, 0, 0, 0, 0, 0, 0, 0, 0, 0, 0, 0, 0, 0, 0, 0], .i 2], .n, .i 0]], .l [.l [.i 7, .l [.i 84]]], .i 0]]
def r6_2 : List Rs := [.d 96 (.l [.i 0, .s [], .s [], .s [], bl [0, 0, 0, 0, 0, 0, 0, 0, 0, 0, 0, 0, 0, 0, 0, 0, 0, 0, 0, 0]]), .d 3 (.i (-1)), .d 29 (.i 0)]
theorem mm6_2 : ob (runZ Tryz.prog T tabM6 100000 60 60 (mkAs T [35] x6_2) (fun _ => none) 0) (fun out => resC T false [.d 96, .d 3, .d 29] out) = some r6_2 := by kernel_rfl
def x6_3 : List V := [.l [.i 0, .l [.l [.l [bl [0, 0, 0, 0, 0, 0, 0, 0, 0, 0, 0, 0, 0, 0, 0, 0, 0, 0, 0, 0, 0, 0, 0, 0, 0, 0, 0, 0, 0, 0, 0, 0], .i 3], .n, .i 0]], .l [.l [.i 7, .l [.i 84]]], .i 0]]
def r6_3 : List Rs := [.d 96 (.l [.i 0, .s [], .s [], .s [], bl [0, 0, 0, 0, 0, 0, 0, 0, 0, 0, 0, 0, 0, 0, 0, 0, 0, 0, 0, 0]]), .d 3 (.i (-1)), .d 29 (.i 0)]
theorem mm6_3 : ob (runZ Tryz.prog T tabM6 100000 60 60 (mkAs T [35] x6_3) (fun _ => none) 0) (fun out => resC T false [.d 96, .d 3, .d 29] out) = some r6_3 := by kernel_rfl
noncomputable def tb6 : List (List V × List Rs) := [(x6_0, r6_0), (x6_1, r6_1), (x6_2, r6_2), (x6_3, r6_3)]
theorem mem6 : SymOK Tryz.prog T 60 (pureS T false [35] (memF tb6)).dir := memo_ok (rk := [.d 96, .d 3, .d 29]) (runZ_ok (fu := 100000) (d := 60) follows T_ok tabM6_ok) (by kernel_rfl) ⟨mm6_0, mm6_1, mm6_2, mm6_3, trivial⟩
noncomputable def tabM7 : List (Nat × Sym) := (60, (pureS T false [35] (memF tb6)).dir) :: tabM6
theorem tabM7_ok : AllS Tryz.prog T tabM7 := ⟨mem6, tabM6_ok⟩
def x7_0 : List V := [.n, .l [.i 84], bl [253, 90, 71, 101, 245, 48, 96, 140, 237, 57, 160, 51, 141, 150, 249, 88, 216, 165, 216, 30, 10, 100, 254, 240, 242, 145, 135, 62, 72, 47, 118, 72]]
def r7_0 : List Rs := [.d 4 (.b true)]
theorem mm7_0 : ob (runZ Tryz.prog T tabM7 100000 60 70 (mkAs T [38, 38, 44] x7_0) (fun _ => none) 0) (fun out => resC T false [.d 4] out) = some r7_0 := by kernel_rfl
def x7_1 : List V := [.n, .l [.i 84], bl [239, 52, 203, 5, 173, 238, 120, 19, 141, 39, 179, 148, 188, 74, 81, 21, 92, 23, 23, 52, 226, 105, 140, 11, 146, 26, 223, 74, 199, 177, 175, 211]]
def r7_1 : List Rs := [.d 4 (.b true)]
theorem mm7_1 : ob (runZ Tryz.prog T tabM7 100000 60 70 (mkAs T [38, 38, 44] x7_1) (fun _ => none) 0) (fun out => resC T false [.d 4] out) = some r7_1 := by kernel_rfl
noncomputable def tb7 : List (List V × List Rs) := [(x7_0, r7_0), (x7_1, r7_1)]
theorem mem7 : SymOK Tryz.prog T 70 (pureS T false [38, 38, 44] (memF tb7)).dir := memo_ok (rk := [.d 4]) (runZ_ok (fu := 100000) (d := 60) follows T_ok tabM7_ok) (by kernel_rfl) ⟨mm7_0, mm7_1, trivial⟩
noncomputable def tabM8 : List (Nat × Sym) := (70, (pureS T false [38, 38, 44] (memF tb7)).dir) :: tabM7
theorem tabM8_ok : AllS Tryz.prog T tabM8 := ⟨mem7, tabM7_ok⟩
noncomputable abbrev tabZ : List (Nat × Sym) := tabM8
theorem tabZ_ok : AllS Tryz.prog T tabZ := tabM8_ok
theorem law_run : ansB true (runZ Tryz.prog T tabZ 100000 60 3 [] (fun _ => none) 0) = true := by kernel_rfl
end Go.Proofs.YtegeffampgdibaaGreat
end

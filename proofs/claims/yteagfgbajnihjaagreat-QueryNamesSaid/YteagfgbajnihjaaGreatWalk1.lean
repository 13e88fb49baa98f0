/- What functions compute, and the law run. -/
import Derived.Test.YteagfgbajnihjaaGreatTy
import Derived.Test.YteagfgbajnihjaaGreatVm10
import Derived.Test.YteagfgbajnihjaaGreatVm11
set_option linter.constructorNameAsVariable false
set_option linter.unusedVariables false
set_option linter.unusedSimpArgs false
noncomputable section
namespace Go.Proofs.YteagfgbajnihjaaGreat
open Go.Vm
set_option maxRecDepth 100000
set_option linter.unusedVariables false
noncomputable def tab1 : List (Nat × SymC) := []
theorem tab1_ok : TabOK Tryz.prog T tab1 := tabOK_nil
noncomputable def K1 : KC := runAC Tryz.prog T tab1 false FU 4
theorem hK1 : K1.nat := runAC_nat tab1_ok 4
theorem hS1 : KOK Tryz.prog T K1.dir := runAC_ok follows T_ok tab1_ok 4
def tmSpA : PSpA → Vm.St
  | .m x z i w => ⟨[(0, .v 32 x), (2, .p 0 348 []), (3, .p 1 348 []), (8, .i .i64 i)], (.n (some (.box 348 (.v 348 z) false)) (.n (some (.box 348 (.v 348 w) false)) .e .e) .e), [], 2, some []⟩
def ekSpA (R : Type) (kx : Exit → Vm.St → Option R) : QSpA → Option R
  | .o x z i w => kx (.exit 0) ⟨[(0, .v 32 x), (2, .p 0 348 []), (3, .p 1 348 []), (8, .i .i64 i)], (.n (some (.box 348 (.v 348 z) false)) (.n (some (.box 348 (.v 348 w) false)) .e .e) .e), [], 16, some []⟩
def extSpA : Vm.St → Option PSpA
  | ⟨[(0, .v 32 x), (2, .p 0 348 []), (3, .p 1 348 []), (8, .i .i64 i)], (.n (some (.box 348 (.v 348 z) false)) (.n (some (.box 348 (.v 348 w) false)) .e .e) .e), [], 2, some []⟩ => some (.m x z i w)
  | _ => none
theorem extSpA_ok (τ : Vm.St) (x : PSpA) (h : extSpA τ = some x) : τ = tmSpA x := by
  unfold extSpA at h
  split at h <;> first | (cases h; rfl) | cases h
theorem stepSpA (R : Type) (of : Nat → Option Ob) (x : PSpA) (K : Vm.St → Option R) (kx : Exit → Vm.St → Option R) : execC T K1 (fun _ => none) false FU (ntOf Tryz.prog 213) of R (lp (codeOf Tryz.prog 213) 0) (tmSpA x) (sortN 0 [0, 2, 3, 8] 16 K kx) = BSpA R x (fun x' => K (tmSpA x')) (ekSpA R kx) := by
  cases x
  · kernel_rfl
noncomputable def HSpA : LS := loopH T K1 (fun _ => none) (ntOf Tryz.prog 213) (lp (codeOf Tryz.prog 213) 0) 0 [0, 2, 3, 8] 16 extSpA BSpA ekSpA
theorem HSpA_ok : LoopTk Tryz.prog T (ntOf Tryz.prog 213) 0 (lp (codeOf Tryz.prog 213) 0) HSpA :=
  loopH_ok follows T_ok hK1 hS1 loNat_none (loopsOK_none _) tmSpA extSpA_ok stepSpA
def tmSpB : PSpB → Vm.St
  | .m z i w => ⟨[(2, .p 0 348 []), (3, .p 1 348 []), (5, .i .i64 i)], (.n (some (.box 348 (.v 348 z) false)) (.n (some (.box 348 (.v 348 w) false)) .e .e) .e), [], 2, some []⟩
def ekSpB (R : Type) (kx : Exit → Vm.St → Option R) : QSpB → Option R
  | .o z i w => kx (.exit 2) ⟨[(2, .p 0 348 []), (3, .p 1 348 []), (5, .i .i64 i)], (.n (some (.box 348 (.v 348 z) false)) (.n (some (.box 348 (.v 348 w) false)) .e .e) .e), [], 16, some []⟩
def extSpB : Vm.St → Option PSpB
  | ⟨[(2, .p 0 348 []), (3, .p 1 348 []), (5, .i .i64 i)], (.n (some (.box 348 (.v 348 z) false)) (.n (some (.box 348 (.v 348 w) false)) .e .e) .e), [], 2, some []⟩ => some (.m z i w)
  | _ => none
theorem extSpB_ok (τ : Vm.St) (x : PSpB) (h : extSpB τ = some x) : τ = tmSpB x := by
  unfold extSpB at h
  split at h <;> first | (cases h; rfl) | cases h
theorem stepSpB (R : Type) (of : Nat → Option Ob) (x : PSpB) (K : Vm.St → Option R) (kx : Exit → Vm.St → Option R) : execC T K1 (fun _ => none) false FU (ntOf Tryz.prog 213) of R (lp (codeOf Tryz.prog 213) 1) (tmSpB x) (sortN 0 [2, 3, 5] 16 K kx) = BSpB R x (fun x' => K (tmSpB x')) (ekSpB R kx) := by
  cases x
  · kernel_rfl
noncomputable def HSpB : LS := loopH T K1 (fun _ => none) (ntOf Tryz.prog 213) (lp (codeOf Tryz.prog 213) 1) 0 [2, 3, 5] 16 extSpB BSpB ekSpB
theorem HSpB_ok : LoopTk Tryz.prog T (ntOf Tryz.prog 213) 0 (lp (codeOf Tryz.prog 213) 1) HSpB :=
  loopH_ok follows T_ok hK1 hS1 loNat_none (loopsOK_none _) tmSpB extSpB_ok stepSpB
noncomputable def LoSp : Nat → LC := atN 0 [(3, HSpA), (8, HSpB)]
theorem LoSp_ok : LoopsC Tryz.prog T 213 LoSp := loopsC_at 0 (List.forall_mem_cons.2 ⟨HSpA_ok.1, List.forall_mem_cons.2 ⟨HSpB_ok.1, fun _ h => by cases h⟩⟩) 2 (by kernel_rfl) ⟨⟨trivial, loI (s0 := HSpA) (by kernel_rfl) HSpA_ok⟩, loI (s0 := HSpB) (by kernel_rfl) HSpB_ok⟩
noncomputable def Gsp : FC := fun R xs k => match xs with
  | [x] => lpC (BSpA R) (hid FU) (.m x z64 0 z64) (fun | .o _ z _ w => lpC (BSpB R) (hid FU) (.m z 16 w) (fun | .o _ _ w => k [.d 348 w]))
  | _ => none
theorem run_sp (R : Type) (x : V) (k : List Rs → Option R) : runFC Tryz.prog T K1 LoSp false FU 213 R (mkAs T [32] [x]) (fun _ => none) 0 (fun out => ob (resC T false [.d 348] out) k) = Gsp R [x] k := by kernel_rfl
noncomputable def tab2 : List (Nat × SymC) := (213, pureS T false [32] (Fsp 348)) :: tab1
theorem tab2_ok : TabOK Tryz.prog T tab2 := by
  refine pure_run (sh := false) (rk := [.d 348]) (d := 4) (fu := FU) (Lo := LoSp) (G := Gsp) follows T_ok tab1_ok (Fsp_nat 348) (by kernel_rfl) LoSp_ok (fun R xs k htv => ?_) (fun xs rs htv hrs => ?_)
  · match xs, htv.len with
    | [x], _ => exact run_sp R x k
  · match xs, htv, htv.len with
    | [x], htv, _ =>
      obtain ⟨e, cs, hx⟩ := htv.head
      obtain ⟨bs, h1, h2⟩ := tv_slice (T := T) (el := 5) (kd := .u8) (by kernel_rfl) (by kernel_rfl) rfl hx
      simp only [Fsp] at hrs
      cases hl : Nat.ble 64 x.els.length with
      | false => rw [hl] at hrs; cases hrs
      | true =>
        rw [hl] at hrs
        have hl := Nat.le_of_ble_eq_true hl
        rw [h1, List.length_map] at hl
        exact (spread_law h1 (lt256 h2) hl HID (fun w => some [Rs.d 348 w])).trans hrs
noncomputable def K2 : KC := runAC Tryz.prog T tab2 false FU 4
theorem hK2 : K2.nat := runAC_nat tab2_ok 4
theorem hS2 : KOK Tryz.prog T K2.dir := runAC_ok follows T_ok tab2_ok 4
def tmMxA : PMxA → Vm.St
  | .m s z w k x i => ⟨[(2, .p 0 326 []), (4, .p 1 326 []), (5, .p 3 348 []), (6, .p 4 348 []), (7, .p 5 326 []), (18, .i .i64 i)], (.n (some (.box 326 (.v 326 s) false)) (.n (some (.box 326 (.v 326 z) false)) (.n (some (.box 348 (.v 348 w) false)) .e .e) (.n (some (.box 326 (.v 326 x) false)) .e .e)) (.n none (.n (some (.box 348 (.v 348 k) false)) .e .e) .e)), [], 6, some []⟩
def ekMxA (R : Type) (kx : Exit → Vm.St → Option R) : QMxA → Option R
  | .o s z w k x i => kx (.exit 0) ⟨[(2, .p 0 326 []), (4, .p 1 326 []), (5, .p 3 348 []), (6, .p 4 348 []), (7, .p 5 326 []), (18, .i .i64 i)], (.n (some (.box 326 (.v 326 s) false)) (.n (some (.box 326 (.v 326 z) false)) (.n (some (.box 348 (.v 348 w) false)) .e .e) (.n (some (.box 326 (.v 326 x) false)) .e .e)) (.n none (.n (some (.box 348 (.v 348 k) false)) .e .e) .e)), [], 16, some []⟩
def extMxA : Vm.St → Option PMxA
  | ⟨[(2, .p 0 326 []), (4, .p 1 326 []), (5, .p 3 348 []), (6, .p 4 348 []), (7, .p 5 326 []), (18, .i .i64 i)], (.n (some (.box 326 (.v 326 s) false)) (.n (some (.box 326 (.v 326 z) false)) (.n (some (.box 348 (.v 348 w) false)) .e .e) (.n (some (.box 326 (.v 326 x) false)) .e .e)) (.n none (.n (some (.box 348 (.v 348 k) false)) .e .e) .e)), [], 6, some []⟩ => some (.m s z w k x i)
  | _ => none
theorem extMxA_ok (τ : Vm.St) (x : PMxA) (h : extMxA τ = some x) : τ = tmMxA x := by
  unfold extMxA at h
  split at h <;> first | (cases h; rfl) | cases h
theorem stepMxA (R : Type) (of : Nat → Option Ob) (x : PMxA) (K : Vm.St → Option R) (kx : Exit → Vm.St → Option R) : execC T K2 (fun _ => none) false FU (ntOf Tryz.prog 193) of R (lp (codeOf Tryz.prog 193) 0) (tmMxA x) (sortN 0 [2, 4, 5, 6, 7, 18] 16 K kx) = BMxA R x (fun x' => K (tmMxA x')) (ekMxA R kx) := by
  cases x
  · kernel_rfl
noncomputable def HMxA : LS := loopH T K2 (fun _ => none) (ntOf Tryz.prog 193) (lp (codeOf Tryz.prog 193) 0) 0 [2, 4, 5, 6, 7, 18] 16 extMxA BMxA ekMxA
theorem HMxA_ok : LoopTk Tryz.prog T (ntOf Tryz.prog 193) 0 (lp (codeOf Tryz.prog 193) 0) HMxA :=
  loopH_ok follows T_ok hK2 hS2 loNat_none (loopsOK_none _) tmMxA extMxA_ok stepMxA
def tmMxB : PMxB → Vm.St
  | .m s z x i => ⟨[(2, .p 0 326 []), (4, .p 1 326 []), (7, .p 5 326 []), (98, .i .i64 i)], (.n (some (.box 326 (.v 326 s) false)) (.n (some (.box 326 (.v 326 z) false)) .e (.n (some (.box 326 (.v 326 x) false)) .e .e)) .e), [], 6, some []⟩
def ekMxB (R : Type) (kx : Exit → Vm.St → Option R) : QMxB → Option R
  | .o s z x i => kx (.exit 2) ⟨[(2, .p 0 326 []), (4, .p 1 326 []), (7, .p 5 326 []), (98, .i .i64 i)], (.n (some (.box 326 (.v 326 s) false)) (.n (some (.box 326 (.v 326 z) false)) .e (.n (some (.box 326 (.v 326 x) false)) .e .e)) .e), [], 16, some []⟩
def extMxB : Vm.St → Option PMxB
  | ⟨[(2, .p 0 326 []), (4, .p 1 326 []), (7, .p 5 326 []), (98, .i .i64 i)], (.n (some (.box 326 (.v 326 s) false)) (.n (some (.box 326 (.v 326 z) false)) .e (.n (some (.box 326 (.v 326 x) false)) .e .e)) .e), [], 6, some []⟩ => some (.m s z x i)
  | _ => none
theorem extMxB_ok (τ : Vm.St) (x : PMxB) (h : extMxB τ = some x) : τ = tmMxB x := by
  unfold extMxB at h
  split at h <;> first | (cases h; rfl) | cases h
theorem stepMxB (R : Type) (of : Nat → Option Ob) (x : PMxB) (K : Vm.St → Option R) (kx : Exit → Vm.St → Option R) : execC T K2 (fun _ => none) false FU (ntOf Tryz.prog 193) of R (lp (codeOf Tryz.prog 193) 1) (tmMxB x) (sortN 0 [2, 4, 7, 98] 16 K kx) = BMxB R x (fun x' => K (tmMxB x')) (ekMxB R kx) := by
  cases x
  · kernel_rfl
noncomputable def HMxB : LS := loopH T K2 (fun _ => none) (ntOf Tryz.prog 193) (lp (codeOf Tryz.prog 193) 1) 0 [2, 4, 7, 98] 16 extMxB BMxB ekMxB
theorem HMxB_ok : LoopTk Tryz.prog T (ntOf Tryz.prog 193) 0 (lp (codeOf Tryz.prog 193) 1) HMxB :=
  loopH_ok follows T_ok hK2 hS2 loNat_none (loopsOK_none _) tmMxB extMxB_ok stepMxB
noncomputable def LoMx : Nat → LC := atN 0 [(3, HMxA), (11, HMxB)]
theorem LoMx_ok : LoopsC Tryz.prog T 193 LoMx := loopsC_at 0 (List.forall_mem_cons.2 ⟨HMxA_ok.1, List.forall_mem_cons.2 ⟨HMxB_ok.1, fun _ h => by cases h⟩⟩) 2 (by kernel_rfl) ⟨⟨trivial, loI (s0 := HMxA) (by kernel_rfl) HMxA_ok⟩, loI (s0 := HMxB) (by kernel_rfl) HMxB_ok⟩
noncomputable def Gmx : FC := fun R xs k => match xs with
  | [s, b] => bif Nat.ble 64 b.els.length then lpC (BMxA R) (hid FU) (.m s z8 (spW b) keysV s 0) (fun | .o s z _ _ x _ => lpC (BMxB R) (hid FU) (.m s z x 0) (fun | .o s _ _ _ => k [.d 326 s])) else none
  | _ => none
theorem run_mx (R : Type) (s b : V) (k : List Rs → Option R) : runFC Tryz.prog T K2 LoMx false FU 193 R (mkAs T [326, 32] [s, b]) (fun _ => none) 0 (fun out => ob (resC T false [.d 326] out) k) = Gmx R [s, b] k := by kernel_rfl
noncomputable def tab3 : List (Nat × SymC) := (193, pureS T false [326, 32] (Fmx 326)) :: tab2
theorem tab3_ok : TabOK Tryz.prog T tab3 := by
  refine pure_run (sh := false) (rk := [.d 326]) (d := 4) (fu := FU) (Lo := LoMx) (G := Gmx) follows T_ok tab2_ok (Fmx_nat 326) (by kernel_rfl) LoMx_ok (fun R xs k htv => ?_) (fun xs rs htv hrs => ?_)
  · match xs, htv.len with
    | [s, b], _ => exact run_mx R s b k
  · match xs, htv, htv.len with
    | [s, b], htv, _ =>
      obtain ⟨e, cs, hs⟩ := htv.head
      obtain ⟨e2, cs2, hx⟩ := htv.tail.head
      obtain ⟨bs, h1, h2⟩ := tv_slice (T := T) (el := 5) (kd := .u8) (by kernel_rfl) (by kernel_rfl) rfl hx
      obtain ⟨ns, rfl, n1, n2⟩ := tv_arr (T := T) (n := 8) (el := 24) (kd := .u32) (by kernel_rfl) (by kernel_rfl) rfl hs
      obtain ⟨s8, hs8, hok⟩ := stV_of n1 n2
      rw [hs8] at hrs ⊢
      simp only [Fmx] at hrs
      cases hl : Nat.ble 64 b.els.length with
      | false => rw [hl] at hrs; cases hrs
      | true =>
        rw [hl] at hrs
        simp only [Gmx, hl, cond_true]
        have hl := Nat.le_of_ble_eq_true hl
        rw [h1, List.length_map] at hl
        exact (mix_law hok h1 (lt256 h2) hl HID (fun w => some [Rs.d 326 w])).trans hrs
noncomputable def K3 : KC := runAC Tryz.prog T tab3 false FU 4
theorem hK3 : K3.nat := runAC_nat tab3_ok 4
theorem hS3 : KOK Tryz.prog T K3.dir := runAC_ok follows T_ok tab3_ok 4
end Go.Proofs.YteagfgbajnihjaaGreat

namespace Go.Proofs.YteagfgbajnihjaaGreat
open Go.Vm
set_option maxRecDepth 100000
set_option linter.unusedVariables false
def tmPdA : PPdA → Vm.St
  | .m b xs => ⟨[(0, .v 32 b), (3, .o 1 1)], (.n none (.n (some (.row 5 1 xs false false)) .e .e) .e), [], 2, some []⟩
def ekPdA (R : Type) (kx : Exit → Vm.St → Option R) : QPdA → Option R
  | .o b xs => kx (.exit 0) ⟨[(0, .v 32 b), (3, .o 1 1)], (.n none (.n (some (.row 5 1 xs false false)) .e .e) .e), [], 8, some []⟩
def extPdA : Vm.St → Option PPdA
  | ⟨[(0, .v 32 b), (3, .o 1 1)], (.n none (.n (some (.row 5 1 xs false false)) .e .e) .e), [], 2, some []⟩ => some (.m b xs)
  | _ => none
theorem extPdA_ok (τ : Vm.St) (x : PPdA) (h : extPdA τ = some x) : τ = tmPdA x := by
  unfold extPdA at h
  split at h <;> first | (cases h; rfl) | cases h
theorem stepPdA (R : Type) (of : Nat → Option Ob) (x : PPdA) (K : Vm.St → Option R) (kx : Exit → Vm.St → Option R) : execC T K3 (fun _ => none) false FU (ntOf Tryz.prog 143) of R (lp (codeOf Tryz.prog 143) 0) (tmPdA x) (sortN 0 [0, 3] 8 K kx) = BPdA R x (fun x' => K (tmPdA x')) (ekPdA R kx) := by
  cases x
  · kernel_rfl
noncomputable def HPdA : LS := loopH T K3 (fun _ => none) (ntOf Tryz.prog 143) (lp (codeOf Tryz.prog 143) 0) 0 [0, 3] 8 extPdA BPdA ekPdA
theorem HPdA_ok : LoopTk Tryz.prog T (ntOf Tryz.prog 143) 0 (lp (codeOf Tryz.prog 143) 0) HPdA :=
  loopH_ok follows T_ok hK3 hS3 loNat_none (loopsOK_none _) tmPdA extPdA_ok stepPdA
noncomputable def LoPd : Nat → LC := atN 0 [(2, HPdA)]
theorem LoPd_ok : LoopsC Tryz.prog T 143 LoPd := loopsC_at 0 (List.forall_mem_cons.2 ⟨HPdA_ok.1, fun _ h => by cases h⟩) 2 (by kernel_rfl) ⟨⟨trivial, loI (s0 := HPdA) (by kernel_rfl) HPdA_ok⟩, loN (by kernel_rfl)⟩

theorem run_pd (R : Type) (b : V) (k : List Rs → Option R) : runFC Tryz.prog T K3 LoPd false FU 143 R (mkAs T [32] [b]) (fun _ => none) 0 (fun out => ob (resC T false [.r 5] out) k) = Gpd 5 R [b] k := by kernel_rfl
noncomputable def tab4 : List (Nat × SymC) := (143, pureS T false [32] (Fpd 5)) :: tab3
theorem tab4_ok : TabOK Tryz.prog T tab4 := by
  refine pure_run (sh := false) (rk := [.r 5]) (d := 4) (fu := FU) (Lo := LoPd) (G := Gpd 5) follows T_ok tab3_ok (Fpd_nat 5) (by kernel_rfl) LoPd_ok (fun R xs k htv => ?_) (fun xs rs htv hrs => ?_)
  · match xs, htv.len with
    | [b], _ => exact run_pd R b k
  · match xs, htv.len with
    | [b], _ => exact pd_law 5 hrs
noncomputable def K4 : KC := runAC Tryz.prog T tab4 false FU 4
theorem hK4 : K4.nat := runAC_nat tab4_ok 4
theorem hS4 : KOK Tryz.prog T K4.dir := runAC_ok follows T_ok tab4_ok 4
def tmSmA : PSmA → Vm.St
  | .m z v xs kk at_ ws i => ⟨[(2, .p 0 23 []), (3, .p 1 270 []), (4, .o 2 1), (5, .p 4 271 []), (6, .i .i64 at_), (7, .o 5 1), (8, .i .i64 i)], (.n (some (.box 23 (.v 23 z) false)) (.n (some (.box 270 (.v 270 v) false)) .e (.n (some (.row 37 1 ws false false)) .e .e)) (.n (some (.row 5 1 xs false false)) (.n (some (.box 271 (.v 271 kk) false)) .e .e) .e)), [], 6, some []⟩
def ekSmA (R : Type) (kx : Exit → Vm.St → Option R) : QSmA → Option R
  | .o z v xs kk at_ ws i => kx (.exit 2) ⟨[(2, .p 0 23 []), (3, .p 1 270 []), (4, .o 2 1), (5, .p 4 271 []), (6, .i .i64 at_), (7, .o 5 1), (8, .i .i64 i)], (.n (some (.box 23 (.v 23 z) false)) (.n (some (.box 270 (.v 270 v) false)) .e (.n (some (.row 37 1 ws false false)) .e .e)) (.n (some (.row 5 1 xs false false)) (.n (some (.box 271 (.v 271 kk) false)) .e .e) .e)), [], 16, some []⟩
def extSmA : Vm.St → Option PSmA
  | ⟨[(2, .p 0 23 []), (3, .p 1 270 []), (4, .o 2 1), (5, .p 4 271 []), (6, .i .i64 at_), (7, .o 5 1), (8, .i .i64 i)], (.n (some (.box 23 (.v 23 z) false)) (.n (some (.box 270 (.v 270 v) false)) .e (.n (some (.row 37 1 ws false false)) .e .e)) (.n (some (.row 5 1 xs false false)) (.n (some (.box 271 (.v 271 kk) false)) .e .e) .e)), [], 6, some []⟩ => some (.m z v xs kk at_ ws i)
  | _ => none
theorem extSmA_ok (τ : Vm.St) (x : PSmA) (h : extSmA τ = some x) : τ = tmSmA x := by
  unfold extSmA at h
  split at h <;> first | (cases h; rfl) | cases h
theorem stepSmA (R : Type) (of : Nat → Option Ob) (x : PSmA) (K : Vm.St → Option R) (kx : Exit → Vm.St → Option R) : execC T K4 (fun _ => none) false FU (ntOf Tryz.prog 90) of R (lp (codeOf Tryz.prog 90) 1) (tmSmA x) (sortN 0 [2, 3, 4, 5, 6, 7, 8] 16 K kx) = BSmA R x (fun x' => K (tmSmA x')) (ekSmA R kx) := by
  cases x
  · kernel_rfl
noncomputable def HSmA : LS := loopH T K4 (fun _ => none) (ntOf Tryz.prog 90) (lp (codeOf Tryz.prog 90) 1) 0 [2, 3, 4, 5, 6, 7, 8] 16 extSmA BSmA ekSmA
theorem HSmA_ok : LoopTk Tryz.prog T (ntOf Tryz.prog 90) 0 (lp (codeOf Tryz.prog 90) 1) HSmA :=
  loopH_ok follows T_ok hK4 hS4 loNat_none (loopsOK_none _) tmSmA extSmA_ok stepSmA
def tmSmB : PSmB → Vm.St
  | .m z v xs kk at_ ws x i => ⟨[(2, .p 0 23 []), (3, .p 1 270 []), (4, .o 2 1), (5, .p 4 271 []), (6, .i .i64 at_), (7, .o 5 1), (13, .p 16 270 []), (14, .i .i64 i)], (.n (some (.box 23 (.v 23 z) false)) (.n (some (.box 270 (.v 270 v) false)) .e (.n (some (.row 37 1 ws false false)) .e .e)) (.n (some (.row 5 1 xs false false)) (.n (some (.box 271 (.v 271 kk) false)) (.n none (.n (some (.box 270 (.v 270 x) false)) .e .e) .e) .e) .e)), [], 17, some []⟩
def ekSmB (R : Type) (kx : Exit → Vm.St → Option R) : QSmB → Option R
  | .o z v xs kk at_ ws x i => kx (.exit 6) ⟨[(2, .p 0 23 []), (3, .p 1 270 []), (4, .o 2 1), (5, .p 4 271 []), (6, .i .i64 at_), (7, .o 5 1), (13, .p 16 270 []), (14, .i .i64 i)], (.n (some (.box 23 (.v 23 z) false)) (.n (some (.box 270 (.v 270 v) false)) .e (.n (some (.row 37 1 ws false false)) .e .e)) (.n (some (.row 5 1 xs false false)) (.n (some (.box 271 (.v 271 kk) false)) (.n none (.n (some (.box 270 (.v 270 x) false)) .e .e) .e) .e) .e)), [], 32, some []⟩
def extSmB : Vm.St → Option PSmB
  | ⟨[(2, .p 0 23 []), (3, .p 1 270 []), (4, .o 2 1), (5, .p 4 271 []), (6, .i .i64 at_), (7, .o 5 1), (13, .p 16 270 []), (14, .i .i64 i)], (.n (some (.box 23 (.v 23 z) false)) (.n (some (.box 270 (.v 270 v) false)) .e (.n (some (.row 37 1 ws false false)) .e .e)) (.n (some (.row 5 1 xs false false)) (.n (some (.box 271 (.v 271 kk) false)) (.n none (.n (some (.box 270 (.v 270 x) false)) .e .e) .e) .e) .e)), [], 17, some []⟩ => some (.m z v xs kk at_ ws x i)
  | _ => none
theorem extSmB_ok (τ : Vm.St) (x : PSmB) (h : extSmB τ = some x) : τ = tmSmB x := by
  unfold extSmB at h
  split at h <;> first | (cases h; rfl) | cases h
theorem stepSmB (R : Type) (of : Nat → Option Ob) (x : PSmB) (K : Vm.St → Option R) (kx : Exit → Vm.St → Option R) : execC T K4 (fun _ => none) false FU (ntOf Tryz.prog 90) of R (lp (codeOf Tryz.prog 90) 3) (tmSmB x) (sortN 0 [2, 3, 4, 5, 6, 7, 13, 14] 32 K kx) = BSmB R x (fun x' => K (tmSmB x')) (ekSmB R kx) := by
  cases x
  · kernel_rfl
noncomputable def HSmB : LS := loopH T K4 (fun _ => none) (ntOf Tryz.prog 90) (lp (codeOf Tryz.prog 90) 3) 0 [2, 3, 4, 5, 6, 7, 13, 14] 32 extSmB BSmB ekSmB
theorem HSmB_ok : LoopTk Tryz.prog T (ntOf Tryz.prog 90) 0 (lp (codeOf Tryz.prog 90) 3) HSmB :=
  loopH_ok follows T_ok hK4 hS4 loNat_none (loopsOK_none _) tmSmB extSmB_ok stepSmB
def tmSmO : PSmO → Vm.St
  | .m z v xs kk at_ => ⟨[(2, .p 0 23 []), (3, .p 1 270 []), (4, .o 2 1), (5, .p 4 271 []), (6, .i .i64 at_)], (.n (some (.box 23 (.v 23 z) false)) (.n (some (.box 270 (.v 270 v) false)) .e .e) (.n (some (.row 5 1 xs false false)) (.n (some (.box 271 (.v 271 kk) false)) .e .e) .e)), [], 5, some []⟩
def ekSmO (R : Type) (kx : Exit → Vm.St → Option R) : QSmO → Option R
  | .o z v xs kk at_ => kx (.exit 0) ⟨[(2, .p 0 23 []), (3, .p 1 270 []), (4, .o 2 1), (5, .p 4 271 []), (6, .i .i64 at_)], (.n (some (.box 23 (.v 23 z) false)) (.n (some (.box 270 (.v 270 v) false)) .e .e) (.n (some (.row 5 1 xs false false)) (.n (some (.box 271 (.v 271 kk) false)) .e .e) .e)), [], 64, some []⟩
def extSmO : Vm.St → Option PSmO
  | ⟨[(2, .p 0 23 []), (3, .p 1 270 []), (4, .o 2 1), (5, .p 4 271 []), (6, .i .i64 at_)], (.n (some (.box 23 (.v 23 z) false)) (.n (some (.box 270 (.v 270 v) false)) .e .e) (.n (some (.row 5 1 xs false false)) (.n (some (.box 271 (.v 271 kk) false)) .e .e) .e)), [], 5, some []⟩ => some (.m z v xs kk at_)
  | _ => none
theorem extSmO_ok (τ : Vm.St) (x : PSmO) (h : extSmO τ = some x) : τ = tmSmO x := by
  unfold extSmO at h
  split at h <;> first | (cases h; rfl) | cases h
theorem stepSmO (R : Type) (of : Nat → Option Ob) (x : PSmO) (K : Vm.St → Option R) (kx : Exit → Vm.St → Option R) : execC T K4 (loT [(9, HSmA), (23, HSmB)]) false FU (ntOf Tryz.prog 90) of R (lp (codeOf Tryz.prog 90) 0) (tmSmO x) (sortN 0 [2, 3, 4, 5, 6] 64 K kx) = BSmO R x (fun x' => K (tmSmO x')) (ekSmO R kx) := by
  cases x
  · kernel_rfl
noncomputable def HSmO : LS := loopH T K4 (loT [(9, HSmA), (23, HSmB)]) (ntOf Tryz.prog 90) (lp (codeOf Tryz.prog 90) 0) 0 [2, 3, 4, 5, 6] 64 extSmO BSmO ekSmO
theorem HSmO_ok : LoopTk Tryz.prog T (ntOf Tryz.prog 90) 0 (lp (codeOf Tryz.prog 90) 0) HSmO :=
  loopH_ok follows T_ok hK4 hS4 (loT_nat (List.forall_mem_cons.2 ⟨HSmA_ok.1, List.forall_mem_cons.2 ⟨HSmB_ok.1, fun _ h => by cases h⟩⟩)) (loopsOK_at 5 (by kernel_rfl) ⟨⟨⟨⟨⟨trivial, loI (s0 := HSmA) (by kernel_rfl) ((show lp (lp (codeOf Tryz.prog 90) 0) 0 = lp (codeOf Tryz.prog 90) 1 from by kernel_rfl) ▸ HSmA_ok)⟩, loN (by kernel_rfl)⟩, loI (s0 := HSmB) (by kernel_rfl) ((show lp (lp (codeOf Tryz.prog 90) 0) 2 = lp (codeOf Tryz.prog 90) 3 from by kernel_rfl) ▸ HSmB_ok)⟩, loN (by kernel_rfl)⟩, loN (by kernel_rfl)⟩) tmSmO extSmO_ok stepSmO
noncomputable def LoSm : Nat → LC := atN 0 [(5, HSmO)]
theorem LoSm_ok : LoopsC Tryz.prog T 90 LoSm := loopsC_at 0 (List.forall_mem_cons.2 ⟨HSmO_ok.1, fun _ h => by cases h⟩) 8 (by kernel_rfl) ⟨⟨⟨⟨⟨⟨⟨⟨trivial, loI (s0 := HSmO) (by kernel_rfl) HSmO_ok⟩, loN (by kernel_rfl)⟩, loN (by kernel_rfl)⟩, loN (by kernel_rfl)⟩, loN (by kernel_rfl)⟩, loN (by kernel_rfl)⟩, loN (by kernel_rfl)⟩, loN (by kernel_rfl)⟩

theorem run_sm (R : Type) (b : V) (k : List Rs → Option R) : runFC Tryz.prog T K4 LoSm false FU 90 R (mkAs T [32] [b]) (fun _ => none) 0 (fun out => ob (resC T false [.d 23] out) k) = Gsm 23 R [b] k := by kernel_rfl
noncomputable def tab5 : List (Nat × SymC) := (90, pureS T false [32] (Fsm 23)) :: tab4
theorem tab5_ok : TabOK Tryz.prog T tab5 := by
  refine pure_run (sh := false) (rk := [.d 23]) (d := 4) (fu := FU) (Lo := LoSm) (G := Gsm 23) follows T_ok tab4_ok (Fsm_nat 23) (by kernel_rfl) LoSm_ok (fun R xs k htv => ?_) (fun xs rs htv hrs => ?_)
  · match xs, htv.len with
    | [b], _ => exact run_sm R b k
  · match xs, htv, htv.len with
    | [b], htv, _ =>
      obtain ⟨e, cs, hx⟩ := htv.head
      obtain ⟨bs, h1, h2⟩ := tv_slice (T := T) (el := 5) (kd := .u8) (by kernel_rfl) (by kernel_rfl) rfl hx
      exact sm_law 23 h1 (lt256 h2) hrs
noncomputable def K5 : KC := runAC Tryz.prog T tab5 false FU 4
theorem hK5 : K5.nat := runAC_nat tab5_ok 4
theorem hS5 : KOK Tryz.prog T K5.dir := runAC_ok follows T_ok tab5_ok 4
end Go.Proofs.YteagfgbajnihjaaGreat

namespace Go.Proofs.YteagfgbajnihjaaGreat
open Go.Vm
set_option maxRecDepth 100000
set_option linter.unusedVariables false
def tmAd : PAd → Vm.St
  | .m a b xs c i => ⟨[(0, .v 54 a), (1, .v 54 b), (5, .o 1 1), (6, .i .u64 c), (7, .i .i64 i)], (.n none (.n (some (.row 37 1 xs false false)) .e .e) .e), [], 2, some []⟩
def ekAd (R : Type) (kx : Exit → Vm.St → Option R) : QAd → Option R
  | .o a b xs c i => kx (.exit 0) ⟨[(0, .v 54 a), (1, .v 54 b), (5, .o 1 1), (6, .i .u64 c), (7, .i .i64 i)], (.n none (.n (some (.row 37 1 xs false false)) .e .e) .e), [], 8, some []⟩
def extAd : Vm.St → Option PAd
  | ⟨[(0, .v 54 a), (1, .v 54 b), (5, .o 1 1), (6, .i .u64 c), (7, .i .i64 i)], (.n none (.n (some (.row 37 1 xs false false)) .e .e) .e), [], 2, some []⟩ => some (.m a b xs c i)
  | _ => none
theorem extAd_ok (τ : Vm.St) (x : PAd) (h : extAd τ = some x) : τ = tmAd x := by
  unfold extAd at h
  split at h <;> first | (cases h; rfl) | cases h
theorem stepAd (R : Type) (of : Nat → Option Ob) (x : PAd) (K : Vm.St → Option R) (kx : Exit → Vm.St → Option R) : execC T K5 (fun _ => none) false FU (ntOf Tryz.prog 51) of R (lp (codeOf Tryz.prog 51) 0) (tmAd x) (sortN 0 [0, 1, 5, 6, 7] 8 K kx) = BAd R x (fun x' => K (tmAd x')) (ekAd R kx) := by
  cases x
  · kernel_rfl
noncomputable def HAd : LS := loopH T K5 (fun _ => none) (ntOf Tryz.prog 51) (lp (codeOf Tryz.prog 51) 0) 0 [0, 1, 5, 6, 7] 8 extAd BAd ekAd
theorem HAd_ok : LoopTk Tryz.prog T (ntOf Tryz.prog 51) 0 (lp (codeOf Tryz.prog 51) 0) HAd :=
  loopH_ok follows T_ok hK5 hS5 loNat_none (loopsOK_none _) tmAd extAd_ok stepAd
noncomputable def LoAd : Nat → LC := atN 0 [(4, HAd)]
theorem LoAd_ok : LoopsC Tryz.prog T 51 LoAd := loopsC_at 0 (List.forall_mem_cons.2 ⟨HAd_ok.1, fun _ h => by cases h⟩) 1 (by kernel_rfl) ⟨trivial, loI (s0 := HAd) (by kernel_rfl) HAd_ok⟩

theorem run_ad (R : Type) (a b : V) (k : List Rs → Option R) : runFC Tryz.prog T K5 LoAd false FU 51 R (mkAs T [54, 54] [a, b]) (fun _ => none) 0 (fun out => ob (resC T false [.r 37] out) k) = Gad 37 R [a, b] k := by kernel_rfl
noncomputable def tab6 : List (Nat × SymC) := (51, pureS T false [54, 54] (Fad 37)) :: tab5
theorem tab6_ok : TabOK Tryz.prog T tab6 := by
  refine pure_run (sh := false) (rk := [.r 37]) (d := 4) (fu := FU) (Lo := LoAd) (G := Gad 37) follows T_ok tab5_ok (Fad_nat 37) (by kernel_rfl) LoAd_ok (fun R xs k htv => ?_) (fun xs rs htv hrs => ad_law 37 hrs)
  match xs, htv.len with
  | [a, b], _ => exact run_ad R a b k
def tmCp : PCp → Vm.St
  | .m a b r i => ⟨[(0, .v 54 a), (1, .v 54 b), (4, .i .i64 r), (5, .i .i64 i)], .e, [], 0, some []⟩
def ekCp (R : Type) (kx : Exit → Vm.St → Option R) : QCp → Option R
  | .r a b r i => kx (.ret) ⟨[(0, .v 54 a), (1, .v 54 b), (4, .i .i64 r), (5, .i .i64 i)], .e, [], 8, some []⟩
  | .o a b r i => kx (.exit 0) ⟨[(0, .v 54 a), (1, .v 54 b), (4, .i .i64 r), (5, .i .i64 i)], .e, [], 8, some []⟩
def extCp : Vm.St → Option PCp
  | ⟨[(0, .v 54 a), (1, .v 54 b), (4, .i .i64 r), (5, .i .i64 i)], .e, [], 0, some []⟩ => some (.m a b r i)
  | _ => none
theorem extCp_ok (τ : Vm.St) (x : PCp) (h : extCp τ = some x) : τ = tmCp x := by
  unfold extCp at h
  split at h <;> first | (cases h; rfl) | cases h
theorem stepCp (R : Type) (of : Nat → Option Ob) (x : PCp) (K : Vm.St → Option R) (kx : Exit → Vm.St → Option R) : execC T K5 (fun _ => none) false FU (ntOf Tryz.prog 94) of R (lp (codeOf Tryz.prog 94) 0) (tmCp x) (sortN 0 [0, 1, 4, 5] 8 K kx) = BCp R x (fun x' => K (tmCp x')) (ekCp R kx) := by
  cases x
  · kernel_rfl
noncomputable def HCp : LS := loopH T K5 (fun _ => none) (ntOf Tryz.prog 94) (lp (codeOf Tryz.prog 94) 0) 0 [0, 1, 4, 5] 8 extCp BCp ekCp
theorem HCp_ok : LoopTk Tryz.prog T (ntOf Tryz.prog 94) 0 (lp (codeOf Tryz.prog 94) 0) HCp :=
  loopH_ok follows T_ok hK5 hS5 loNat_none (loopsOK_none _) tmCp extCp_ok stepCp
noncomputable def LoCp : Nat → LC := atN 0 [(2, HCp)]
theorem LoCp_ok : LoopsC Tryz.prog T 94 LoCp := loopsC_at 0 (List.forall_mem_cons.2 ⟨HCp_ok.1, fun _ h => by cases h⟩) 1 (by kernel_rfl) ⟨trivial, loI (s0 := HCp) (by kernel_rfl) HCp_ok⟩
theorem run_cp (R : Type) (a b : V) (k : List Rs → Option R) : runFC Tryz.prog T K5 LoCp false FU 94 R (mkAs T [54, 54] [a, b]) (fun _ => none) 0 (fun out => ob (resC T false [.d 3] out) k) = Gcp 3 R [a, b] k := by kernel_rfl
noncomputable def tab7 : List (Nat × SymC) := (94, pureS T false [54, 54] (Fcp 3)) :: tab6
theorem tab7_ok : TabOK Tryz.prog T tab7 := by
  have h := pure_run (sh := false) (rk := [.d 3]) (d := 4) (fu := FU) (Lo := LoCp) (G := Gcp 3) follows T_ok tab5_ok (Fcp_nat 3) (by kernel_rfl) LoCp_ok (fun R xs k htv => (match xs, htv.len with
    | [a, b], _ => run_cp R a b k)) (fun xs rs htv hrs => cp_law 3 hrs)
  exact tab6_ok.cons (h _ _ (List.mem_cons_self ..)).1 (h _ _ (List.mem_cons_self ..)).2
noncomputable def K7 : KC := runAC Tryz.prog T tab7 false FU 4
theorem hK7 : K7.nat := runAC_nat tab7_ok 4
theorem hS7 : KOK Tryz.prog T K7.dir := runAC_ok follows T_ok tab7_ok 4
end Go.Proofs.YteagfgbajnihjaaGreat

namespace Go.Proofs.YteagfgbajnihjaaGreat
open Go.Vm
set_option maxRecDepth 100000
set_option linter.unusedVariables false
noncomputable def tabM0 : List (Nat × Sym) := [(193, (pureS T false [326, 32] (seeF (Fmx 326))).dir), (90, (pureS T false [32] (seeF (Fsm 23))).dir), (136, cmpS T 32), (198, carry64), (199, borrow64), (51, (pureS T false [54, 54] (seeF (Fad 37))).dir), (94, (pureS T false [54, 54] (seeF (Fcp 3))).dir)]
theorem tabM0_ok : AllS Tryz.prog T tabM0 := ⟨TabOK.see (TabOK.at tab3_ok (by kernel_rfl)), TabOK.see (TabOK.at tab5_ok (by kernel_rfl)), cmp_ok (u8 := 5) (by kernel_rfl) (by kernel_rfl) Tryz.func136 (by kernel_rfl) (by kernel_rfl) (by kernel_rfl) (by kernel_rfl), carry64_ok Tryz.func198 (by kernel_rfl) (by kernel_rfl) (by kernel_rfl) (by kernel_rfl), borrow64_ok Tryz.func199 (by kernel_rfl) (by kernel_rfl) (by kernel_rfl) (by kernel_rfl), TabOK.see (TabOK.at tab7_ok (by kernel_rfl)), TabOK.see (TabOK.at tab7_ok (by kernel_rfl)), trivial⟩
def x0_0 : List V := [.l [bl [66, 89, 78, 65, 77, 69, 48, 49, 0, 0, 0, 0, 0, 0, 0, 0]]]
def r0_0 : List Rs := [.d 23 (bl [71, 66, 67, 0, 176, 13, 250, 203, 11, 148, 245, 98, 82, 20, 154, 254, 250, 249, 227, 81, 47, 171, 162, 140, 8, 214, 161, 174, 225, 191, 151, 8])]
theorem mm0_0 : ob (runZ Tryz.prog T tabM0 100000 60 122 (mkAs T [166] x0_0) (fun _ => none) 0) (fun out => resC T false [.d 23] out) = some r0_0 := by kernel_rfl
def x0_1 : List V := [.l [bl [66, 89, 78, 65, 77, 69, 48, 49, 1, 0, 0, 0, 0, 0, 0, 0]]]
def r0_1 : List Rs := [.d 23 (bl [179, 131, 144, 54, 252, 253, 66, 41, 208, 173, 43, 136, 173, 134, 160, 110, 75, 169, 135, 124, 160, 72, 58, 186, 177, 179, 10, 195, 54, 68, 158, 250])]
theorem mm0_1 : ob (runZ Tryz.prog T tabM0 100000 60 122 (mkAs T [166] x0_1) (fun _ => none) 0) (fun out => resC T false [.d 23] out) = some r0_1 := by kernel_rfl
def x0_2 : List V := [.l [bl [179, 131, 144, 54, 252, 253, 66, 41, 208, 173, 43, 136, 173, 134, 160, 110, 75, 169, 135, 124, 160, 72, 58, 186, 177, 179, 10, 195, 54, 68, 158, 250], bl [1, 0, 0, 0, 1, 0]]]
def r0_2 : List Rs := [.d 23 (bl [19, 50, 224, 205, 10, 199, 4, 162, 2, 23, 157, 220, 228, 35, 189, 112, 155, 109, 234, 237, 62, 254, 160, 34, 187, 214, 247, 142, 233, 178, 85, 121])]
theorem mm0_2 : ob (runZ Tryz.prog T tabM0 100000 60 122 (mkAs T [166] x0_2) (fun _ => none) 0) (fun out => resC T false [.d 23] out) = some r0_2 := by kernel_rfl
def x0_3 : List V := [.l [bl [1, 0, 0, 0, 1, 0, 0, 0, 0, 0, 0, 0, 0, 0, 0, 0, 0, 0, 0, 0, 0, 0, 0, 0, 0, 0, 0, 0, 0, 0, 0, 0, 0, 0, 0, 0, 0, 255, 255, 255, 255, 6, 98, 121, 110, 97, 109, 101, 0, 0, 0, 0, 1, 0, 0, 0, 0, 0, 0, 0, 0, 1, 106, 0, 0, 0, 0]]]
def r0_3 : List Rs := [.d 23 (bl [164, 185, 97, 247, 26, 133, 138, 169, 23, 177, 220, 56, 79, 124, 5, 84, 3, 78, 40, 106, 254, 139, 168, 156, 129, 38, 228, 241, 249, 101, 157, 231])]
theorem mm0_3 : ob (runZ Tryz.prog T tabM0 100000 60 122 (mkAs T [166] x0_3) (fun _ => none) 0) (fun out => resC T false [.d 23] out) = some r0_3 := by kernel_rfl
def x0_4 : List V := [.l [bl [164, 185, 97, 247, 26, 133, 138, 169, 23, 177, 220, 56, 79, 124, 5, 84, 3, 78, 40, 106, 254, 139, 168, 156, 129, 38, 228, 241, 249, 101, 157, 231]]]
def r0_4 : List Rs := [.d 23 (bl [27, 228, 96, 192, 24, 233, 156, 161, 112, 96, 39, 161, 242, 105, 12, 172, 218, 72, 254, 74, 38, 146, 230, 38, 152, 188, 212, 98, 137, 78, 137, 234])]
theorem mm0_4 : ob (runZ Tryz.prog T tabM0 100000 60 122 (mkAs T [166] x0_4) (fun _ => none) 0) (fun out => resC T false [.d 23] out) = some r0_4 := by kernel_rfl
def x0_5 : List V := [.l [bl [1, 0, 0, 0, 0, 0, 0, 0, 0, 0, 0, 0, 0, 0, 0, 0, 0, 0, 0, 0, 0, 0, 0, 0, 0, 0, 0, 0, 0, 0, 0, 0, 0, 0, 0, 0, 27, 228, 96, 192, 24, 233, 156, 161, 112, 96, 39, 161, 242, 105, 12, 172, 218, 72, 254, 74, 38, 146, 230, 38, 152, 188, 212, 98, 137, 78, 137, 234, 0, 202, 154, 59, 255, 255, 127, 32, 0, 0, 0, 0]]]
def r0_5 : List Rs := [.d 23 (bl [30, 142, 222, 220, 65, 59, 120, 14, 231, 129, 242, 81, 22, 124, 166, 126, 57, 108, 10, 92, 117, 197, 61, 184, 88, 189, 119, 47, 216, 235, 59, 136])]
theorem mm0_5 : ob (runZ Tryz.prog T tabM0 100000 60 122 (mkAs T [166] x0_5) (fun _ => none) 0) (fun out => resC T false [.d 23] out) = some r0_5 := by kernel_rfl
def x0_6 : List V := [.l [bl [30, 142, 222, 220, 65, 59, 120, 14, 231, 129, 242, 81, 22, 124, 166, 126, 57, 108, 10, 92, 117, 197, 61, 184, 88, 189, 119, 47, 216, 235, 59, 136]]]
def r0_6 : List Rs := [.d 23 (bl [5, 255, 175, 132, 180, 223, 70, 118, 53, 239, 142, 198, 68, 68, 87, 192, 226, 0, 188, 189, 184, 250, 48, 242, 15, 177, 159, 234, 32, 101, 91, 46])]
theorem mm0_6 : ob (runZ Tryz.prog T tabM0 100000 60 122 (mkAs T [166] x0_6) (fun _ => none) 0) (fun out => resC T false [.d 23] out) = some r0_6 := by kernel_rfl
noncomputable def tb0 : List (List V × List Rs) := [(x0_0, r0_0), (x0_1, r0_1), (x0_2, r0_2), (x0_3, r0_3), (x0_4, r0_4), (x0_5, r0_5), (x0_6, r0_6)]
theorem mem0 : SymOK Tryz.prog T 122 (pureS T false [166] (memF tb0)).dir := memo_ok (rk := [.d 23]) (runZ_ok (fu := 100000) (d := 60) follows T_ok tabM0_ok) (by kernel_rfl) ⟨mm0_0, mm0_1, mm0_2, mm0_3, mm0_4, mm0_5, mm0_6, trivial⟩
noncomputable def tabM1 : List (Nat × Sym) := (122, (pureS T false [166] (memF tb0)).dir) :: tabM0
theorem tabM1_ok : AllS Tryz.prog T tabM1 := ⟨mem0, tabM0_ok⟩
def x1_0 : List V := [.l [.i 1, .l [.l [.l [bl [0, 0, 0, 0, 0, 0, 0, 0, 0, 0, 0, 0, 0, 0, 0, 0, 0, 0, 0, 0, 0, 0, 0, 0, 0, 0, 0, 0, 0, 0, 0, 0], .i 4294967295], bl [98, 121, 110, 97, 109, 101], .i 0]], .l [.l [.i 0, .l [.i 106]]], .i 0]]
def r1_0 : List Rs := [.d 23 (bl [27, 228, 96, 192, 24, 233, 156, 161, 112, 96, 39, 161, 242, 105, 12, 172, 218, 72, 254, 74, 38, 146, 230, 38, 152, 188, 212, 98, 137, 78, 137, 234])]
theorem mm1_0 : ob (runZ Tryz.prog T tabM1 100000 60 45 (mkAs T [137] x1_0) (fun _ => none) 0) (fun out => resC T false [.d 23] out) = some r1_0 := by kernel_rfl
noncomputable def tb1 : List (List V × List Rs) := [(x1_0, r1_0)]
theorem mem1 : SymOK Tryz.prog T 45 (pureS T false [137] (memF tb1)).dir := memo_ok (rk := [.d 23]) (runZ_ok (fu := 100000) (d := 60) follows T_ok tabM1_ok) (by kernel_rfl) ⟨mm1_0, trivial⟩
noncomputable def tabM2 : List (Nat × Sym) := (45, (pureS T false [137] (memF tb1)).dir) :: tabM1
theorem tabM2_ok : AllS Tryz.prog T tabM2 := ⟨mem1, tabM1_ok⟩
def x2_0 : List V := [.l [.i 1, .l [.l [.l [bl [0, 0, 0, 0, 0, 0, 0, 0, 0, 0, 0, 0, 0, 0, 0, 0, 0, 0, 0, 0, 0, 0, 0, 0, 0, 0, 0, 0, 0, 0, 0, 0], .i 4294967295], bl [98, 121, 110, 97, 109, 101], .i 0]], .l [.l [.i 0, .l [.i 106]]], .i 0]]
def r2_0 : List Rs := [.d 23 (bl [27, 228, 96, 192, 24, 233, 156, 161, 112, 96, 39, 161, 242, 105, 12, 172, 218, 72, 254, 74, 38, 146, 230, 38, 152, 188, 212, 98, 137, 78, 137, 234])]
theorem mm2_0 : ob (runZ Tryz.prog T tabM2 100000 60 128 (mkAs T [137] x2_0) (fun _ => none) 0) (fun out => resC T false [.d 23] out) = some r2_0 := by kernel_rfl
noncomputable def tb2 : List (List V × List Rs) := [(x2_0, r2_0)]
theorem mem2 : SymOK Tryz.prog T 128 (pureS T false [137] (memF tb2)).dir := memo_ok (rk := [.d 23]) (runZ_ok (fu := 100000) (d := 60) follows T_ok tabM2_ok) (by kernel_rfl) ⟨mm2_0, trivial⟩
noncomputable def tabM3 : List (Nat × Sym) := (128, (pureS T false [137] (memF tb2)).dir) :: tabM2
theorem tabM3_ok : AllS Tryz.prog T tabM3 := ⟨mem2, tabM2_ok⟩
def x3_0 : List V := [.l [.i 1, bl [0, 0, 0, 0, 0, 0, 0, 0, 0, 0, 0, 0, 0, 0, 0, 0, 0, 0, 0, 0, 0, 0, 0, 0, 0, 0, 0, 0, 0, 0, 0, 0], bl [27, 228, 96, 192, 24, 233, 156, 161, 112, 96, 39, 161, 242, 105, 12, 172, 218, 72, 254, 74, 38, 146, 230, 38, 152, 188, 212, 98, 137, 78, 137, 234], .i 1000000000, .i 545259519, .i 0]]
def r3_0 : List Rs := [.d 23 (bl [5, 255, 175, 132, 180, 223, 70, 118, 53, 239, 142, 198, 68, 68, 87, 192, 226, 0, 188, 189, 184, 250, 48, 242, 15, 177, 159, 234, 32, 101, 91, 46])]
theorem mm3_0 : ob (runZ Tryz.prog T tabM3 100000 60 126 (mkAs T [52] x3_0) (fun _ => none) 0) (fun out => resC T false [.d 23] out) = some r3_0 := by kernel_rfl
noncomputable def tb3 : List (List V × List Rs) := [(x3_0, r3_0)]
theorem mem3 : SymOK Tryz.prog T 126 (pureS T false [52] (memF tb3)).dir := memo_ok (rk := [.d 23]) (runZ_ok (fu := 100000) (d := 60) follows T_ok tabM3_ok) (by kernel_rfl) ⟨mm3_0, trivial⟩
noncomputable def tabM4 : List (Nat × Sym) := (126, (pureS T false [52] (memF tb3)).dir) :: tabM3
theorem tabM4_ok : AllS Tryz.prog T tabM4 := ⟨mem3, tabM3_ok⟩
def x4_0 : List V := [.l [.i 1, bl [0, 0, 0, 0, 0, 0, 0, 0, 0, 0, 0, 0, 0, 0, 0, 0, 0, 0, 0, 0, 0, 0, 0, 0, 0, 0, 0, 0, 0, 0, 0, 0], bl [27, 228, 96, 192, 24, 233, 156, 161, 112, 96, 39, 161, 242, 105, 12, 172, 218, 72, 254, 74, 38, 146, 230, 38, 152, 188, 212, 98, 137, 78, 137, 234], .i 1000000000, .i 545259519, .i 0]]
def r4_0 : List Rs := [.d 23 (bl [5, 255, 175, 132, 180, 223, 70, 118, 53, 239, 142, 198, 68, 68, 87, 192, 226, 0, 188, 189, 184, 250, 48, 242, 15, 177, 159, 234, 32, 101, 91, 46])]
theorem mm4_0 : ob (runZ Tryz.prog T tabM4 100000 60 31 (mkAs T [52] x4_0) (fun _ => none) 0) (fun out => resC T false [.d 23] out) = some r4_0 := by kernel_rfl
noncomputable def tb4 : List (List V × List Rs) := [(x4_0, r4_0)]
theorem mem4 : SymOK Tryz.prog T 31 (pureS T false [52] (memF tb4)).dir := memo_ok (rk := [.d 23]) (runZ_ok (fu := 100000) (d := 60) follows T_ok tabM4_ok) (by kernel_rfl) ⟨mm4_0, trivial⟩
noncomputable def tabM5 : List (Nat × Sym) := (31, (pureS T false [52] (memF tb4)).dir) :: tabM4
theorem tabM5_ok : AllS Tryz.prog T tabM5 := ⟨mem4, tabM4_ok⟩
def x5_0 : List V := []
def r5_0 : List Rs := [.r 37 (bl [0, 0, 0, 0, 0, 0, 0, 0, 0, 0, 0, 0, 0, 0, 65280, 32767, 0, 0, 0, 0, 0, 0, 0, 0, 0, 0, 0, 0, 0, 0, 0] : V).els false]
theorem mm5_0 : ob (runZ Tryz.prog T tabM5 100000 60 95 (mkAs T [] x5_0) (fun _ => none) 0) (fun out => resC T false [.r 37] out) = some r5_0 := by kernel_rfl
noncomputable def tb5 : List (List V × List Rs) := [(x5_0, r5_0)]
theorem mem5 : SymOK Tryz.prog T 95 (pureS T false [] (memF tb5)).dir := memo_ok (rk := [.r 37]) (runZ_ok (fu := 100000) (d := 60) follows T_ok tabM5_ok) (by kernel_rfl) ⟨mm5_0, trivial⟩
noncomputable def tabM6 : List (Nat × Sym) := (95, (pureS T false [] (memF tb5)).dir) :: tabM5
theorem tabM6_ok : AllS Tryz.prog T tabM6 := ⟨mem5, tabM5_ok⟩
def x6_0 : List V := [.i 545259519]
def r6_0 : List Rs := [.r 37 (bl [0, 0, 0, 0, 0, 0, 0, 0, 0, 0, 0, 0, 0, 0, 65280, 32767, 0, 0, 0, 0, 0, 0, 0, 0, 0, 0, 0, 0, 0, 0, 0] : V).els false, .d 3 (.i 0)]
theorem mm6_0 : ob (runZ Tryz.prog T tabM6 100000 60 48 (mkAs T [24] x6_0) (fun _ => none) 0) (fun out => resC T false [.r 37, .d 3] out) = some r6_0 := by kernel_rfl
noncomputable def tb6 : List (List V × List Rs) := [(x6_0, r6_0)]
theorem mem6 : SymOK Tryz.prog T 48 (pureS T false [24] (memF tb6)).dir := memo_ok (rk := [.r 37, .d 3]) (runZ_ok (fu := 100000) (d := 60) follows T_ok tabM6_ok) (by kernel_rfl) ⟨mm6_0, trivial⟩
noncomputable def tabM7 : List (Nat × Sym) := (48, (pureS T false [24] (memF tb6)).dir) :: tabM6
theorem tabM7_ok : AllS Tryz.prog T tabM7 := ⟨mem6, tabM6_ok⟩
def x7_0 : List V := [.i 545259519]
def r7_0 : List Rs := [.r 37 (bl [2, 0, 0, 0, 0, 0, 0, 0, 0, 0, 0, 0, 0, 0, 0, 0, 0] : V).els false]
theorem mm7_0 : ob (runZ Tryz.prog T tabM7 100000 60 32 (mkAs T [24] x7_0) (fun _ => none) 0) (fun out => resC T false [.r 37] out) = some r7_0 := by kernel_rfl
noncomputable def tb7 : List (List V × List Rs) := [(x7_0, r7_0)]
theorem mem7 : SymOK Tryz.prog T 32 (pureS T false [24] (memF tb7)).dir := memo_ok (rk := [.r 37]) (runZ_ok (fu := 100000) (d := 60) follows T_ok tabM7_ok) (by kernel_rfl) ⟨mm7_0, trivial⟩
noncomputable def tabM8 : List (Nat × Sym) := (32, (pureS T false [24] (memF tb7)).dir) :: tabM7
theorem tabM8_ok : AllS Tryz.prog T tabM8 := ⟨mem7, tabM7_ok⟩
def x8_0 : List V := [.i 545259519]
def r8_0 : List Rs := [.d 246 (bl [0, 0, 0, 9223370937343148032]), .d 29 (.i 0)]
theorem mm8_0 : ob (runZ Tryz.prog T tabM8 100000 60 172 (mkAs T [24] x8_0) (fun _ => none) 0) (fun out => resC T false [.d 246, .d 29] out) = some r8_0 := by kernel_rfl
noncomputable def tb8 : List (List V × List Rs) := [(x8_0, r8_0)]
theorem mem8 : SymOK Tryz.prog T 172 (pureS T false [24] (memF tb8)).dir := memo_ok (rk := [.d 246, .d 29]) (runZ_ok (fu := 100000) (d := 60) follows T_ok tabM8_ok) (by kernel_rfl) ⟨mm8_0, trivial⟩
noncomputable def tabM9 : List (Nat × Sym) := (172, (pureS T false [24] (memF tb8)).dir) :: tabM8
theorem tabM9_ok : AllS Tryz.prog T tabM9 := ⟨mem8, tabM8_ok⟩
def x9_0 : List V := [.i 545259519]
def r9_0 : List Rs := [.d 246 (bl [2, 0, 0, 0])]
theorem mm9_0 : ob (runZ Tryz.prog T tabM9 100000 60 127 (mkAs T [24] x9_0) (fun _ => none) 0) (fun out => resC T false [.d 246] out) = some r9_0 := by kernel_rfl
noncomputable def tb9 : List (List V × List Rs) := [(x9_0, r9_0)]
theorem mem9 : SymOK Tryz.prog T 127 (pureS T false [24] (memF tb9)).dir := memo_ok (rk := [.d 246]) (runZ_ok (fu := 100000) (d := 60) follows T_ok tabM9_ok) (by kernel_rfl) ⟨mm9_0, trivial⟩
noncomputable def tabM10 : List (Nat × Sym) := (127, (pureS T false [24] (memF tb9)).dir) :: tabM9
theorem tabM10_ok : AllS Tryz.prog T tabM10 := ⟨mem9, tabM9_ok⟩
def x10_0 : List V := []
def r10_0 : List Rs := [.d 91 (.l [.l [.i 1, bl [0, 0, 0, 0, 0, 0, 0, 0, 0, 0, 0, 0, 0, 0, 0, 0, 0, 0, 0, 0, 0, 0, 0, 0, 0, 0, 0, 0, 0, 0, 0, 0], bl [27, 228, 96, 192, 24, 233, 156, 161, 112, 96, 39, 161, 242, 105, 12, 172, 218, 72, 254, 74, 38, 146, 230, 38, 152, 188, 212, 98, 137, 78, 137, 234], .i 1000000000, .i 545259519, .i 0], .l [.l [.i 1, .l [.l [.l [bl [0, 0, 0, 0, 0, 0, 0, 0, 0, 0, 0, 0, 0, 0, 0, 0, 0, 0, 0, 0, 0, 0, 0, 0, 0, 0, 0, 0, 0, 0, 0, 0], .i 4294967295], bl [98, 121, 110, 97, 109, 101], .i 0]], .l [.l [.i 0, .l [.i 106]]], .i 0]]])]
theorem mm10_0 : ob (runZ Tryz.prog T tabM10 100000 60 30 (mkAs T [] x10_0) (fun _ => none) 0) (fun out => resC T true [.d 91] out) = some r10_0 := by kernel_rfl
noncomputable def tb10 : List (List V × List Rs) := [(x10_0, r10_0)]
theorem mem10 : SymOK Tryz.prog T 30 (pureS T true [] (memF tb10)).dir := memo_ok (rk := [.d 91]) (runZ_ok (fu := 100000) (d := 60) follows T_ok tabM10_ok) (by kernel_rfl) ⟨mm10_0, trivial⟩
noncomputable def tabM11 : List (Nat × Sym) := (30, (pureS T true [] (memF tb10)).dir) :: tabM10
theorem tabM11_ok : AllS Tryz.prog T tabM11 := ⟨mem10, tabM10_ok⟩
def x11_0 : List V := []
def r11_0 : List Rs := [.d 91 (.l [.l [.i 1, bl [0, 0, 0, 0, 0, 0, 0, 0, 0, 0, 0, 0, 0, 0, 0, 0, 0, 0, 0, 0, 0, 0, 0, 0, 0, 0, 0, 0, 0, 0, 0, 0], bl [27, 228, 96, 192, 24, 233, 156, 161, 112, 96, 39, 161, 242, 105, 12, 172, 218, 72, 254, 74, 38, 146, 230, 38, 152, 188, 212, 98, 137, 78, 137, 234], .i 1000000000, .i 545259519, .i 0], .l [.l [.i 1, .l [.l [.l [bl [0, 0, 0, 0, 0, 0, 0, 0, 0, 0, 0, 0, 0, 0, 0, 0, 0, 0, 0, 0, 0, 0, 0, 0, 0, 0, 0, 0, 0, 0, 0, 0], .i 4294967295], bl [98, 121, 110, 97, 109, 101], .i 0]], .l [.l [.i 0, .l [.i 106]]], .i 0]]])]
theorem mm11_0 : ob (runZ Tryz.prog T tabM11 100000 60 76 (mkAs T [] x11_0) (fun _ => none) 0) (fun out => resC T true [.d 91] out) = some r11_0 := by kernel_rfl
noncomputable def tb11 : List (List V × List Rs) := [(x11_0, r11_0)]
theorem mem11 : SymOK Tryz.prog T 76 (pureS T true [] (memF tb11)).dir := memo_ok (rk := [.d 91]) (runZ_ok (fu := 100000) (d := 60) follows T_ok tabM11_ok) (by kernel_rfl) ⟨mm11_0, trivial⟩
noncomputable def tabM12 : List (Nat × Sym) := (76, (pureS T true [] (memF tb11)).dir) :: tabM11
theorem tabM12_ok : AllS Tryz.prog T tabM12 := ⟨mem11, tabM11_ok⟩
def x12_0 : List V := [.n]
def r12_0 : List Rs := [.d 28 (.l [.i 0, bl [0, 0, 0, 0, 0, 0, 0, 0, 0, 0, 0, 0, 0, 0, 0, 0, 0, 0, 0, 0, 0, 0, 0, 0, 0, 0, 0, 0, 0, 0, 0, 0], .l [bl [0, 0, 0, 0, 0, 0, 0, 0, 0, 0, 0, 0, 0, 0, 0, 0, 0, 0, 0, 0, 0, 0, 0, 0, 0, 0, 0, 0, 0, 0, 0, 0], .i 0], .s [], .i 0]), .d 29 (.i 61)]
theorem mm12_0 : ob (runZ Tryz.prog T tabM12 100000 60 4 (mkAs T [32] x12_0) (fun _ => none) 0) (fun out => resC T false [.d 28, .d 29] out) = some r12_0 := by kernel_rfl
def x12_1 : List V := [.l [.i 8]]
def r12_1 : List Rs := [.d 28 (.l [.i 0, bl [0, 0, 0, 0, 0, 0, 0, 0, 0, 0, 0, 0, 0, 0, 0, 0, 0, 0, 0, 0, 0, 0, 0, 0, 0, 0, 0, 0, 0, 0, 0, 0], .l [bl [0, 0, 0, 0, 0, 0, 0, 0, 0, 0, 0, 0, 0, 0, 0, 0, 0, 0, 0, 0, 0, 0, 0, 0, 0, 0, 0, 0, 0, 0, 0, 0], .i 0], .s [], .i 0]), .d 29 (.i 62)]
theorem mm12_1 : ob (runZ Tryz.prog T tabM12 100000 60 4 (mkAs T [32] x12_1) (fun _ => none) 0) (fun out => resC T false [.d 28, .d 29] out) = some r12_1 := by kernel_rfl
def x12_2 : List V := [bl [1, 0]]
def r12_2 : List Rs := [.d 28 (.l [.i 0, bl [0, 0, 0, 0, 0, 0, 0, 0, 0, 0, 0, 0, 0, 0, 0, 0, 0, 0, 0, 0, 0, 0, 0, 0, 0, 0, 0, 0, 0, 0, 0, 0], .l [bl [0, 0, 0, 0, 0, 0, 0, 0, 0, 0, 0, 0, 0, 0, 0, 0, 0, 0, 0, 0, 0, 0, 0, 0, 0, 0, 0, 0, 0, 0, 0, 0], .i 0], .s [], .i 0]), .d 29 (.i 62)]
theorem mm12_2 : ob (runZ Tryz.prog T tabM12 100000 60 4 (mkAs T [32] x12_2) (fun _ => none) 0) (fun out => resC T false [.d 28, .d 29] out) = some r12_2 := by kernel_rfl
def x12_3 : List V := [bl [6, 1, 97, 100]]
def r12_3 : List Rs := [.d 28 (.l [.i 6, bl [0, 0, 0, 0, 0, 0, 0, 0, 0, 0, 0, 0, 0, 0, 0, 0, 0, 0, 0, 0, 0, 0, 0, 0, 0, 0, 0, 0, 0, 0, 0, 0], .l [bl [0, 0, 0, 0, 0, 0, 0, 0, 0, 0, 0, 0, 0, 0, 0, 0, 0, 0, 0, 0, 0, 0, 0, 0, 0, 0, 0, 0, 0, 0, 0, 0], .i 0], .s [.i 97], .i 100]), .d 29 (.i 0)]
theorem mm12_3 : ob (runZ Tryz.prog T tabM12 100000 60 4 (mkAs T [32] x12_3) (fun _ => none) 0) (fun out => resC T false [.d 28, .d 29] out) = some r12_3 := by kernel_rfl
def x12_4 : List V := [.l [.i 1]]
def r12_4 : List Rs := [.d 28 (.l [.i 1, bl [0, 0, 0, 0, 0, 0, 0, 0, 0, 0, 0, 0, 0, 0, 0, 0, 0, 0, 0, 0, 0, 0, 0, 0, 0, 0, 0, 0, 0, 0, 0, 0], .l [bl [0, 0, 0, 0, 0, 0, 0, 0, 0, 0, 0, 0, 0, 0, 0, 0, 0, 0, 0, 0, 0, 0, 0, 0, 0, 0, 0, 0, 0, 0, 0, 0], .i 0], .s [], .i 0]), .d 29 (.i 0)]
theorem mm12_4 : ob (runZ Tryz.prog T tabM12 100000 60 4 (mkAs T [32] x12_4) (fun _ => none) 0) (fun out => resC T false [.d 28, .d 29] out) = some r12_4 := by kernel_rfl
noncomputable def tb12 : List (List V × List Rs) := [(x12_0, r12_0), (x12_1, r12_1), (x12_2, r12_2), (x12_3, r12_3), (x12_4, r12_4)]
theorem mem12 : SymOK Tryz.prog T 4 (pureS T false [32] (memF tb12)).dir := memo_ok (rk := [.d 28, .d 29]) (runZ_ok (fu := 100000) (d := 60) follows T_ok tabM12_ok) (by kernel_rfl) ⟨mm12_0, mm12_1, mm12_2, mm12_3, mm12_4, trivial⟩
noncomputable def tabM13 : List (Nat × Sym) := (4, (pureS T false [32] (memF tb12)).dir) :: tabM12
theorem tabM13_ok : AllS Tryz.prog T tabM13 := ⟨mem12, tabM12_ok⟩
def x13_0 : List V := [bl [0, 0, 0, 0, 0, 0, 0, 0, 0, 0, 0, 0, 0, 0, 0, 0, 0, 0, 0, 0, 0, 0, 0, 0, 0, 0, 0, 0, 0, 0, 0, 0, 0, 0, 0, 0, 0, 0, 0, 0, 0, 0, 0, 0, 0, 0, 0, 0, 0, 0, 0, 0, 0, 0, 0, 0, 0, 0, 0, 0, 0, 0, 0, 0, 0, 0, 0, 0, 0, 0, 0, 0, 0, 0, 0, 0, 0, 0, 0, 0, 0, 0, 0, 0, 0, 0, 0, 0, 0, 0, 0, 0, 0, 0, 0, 0, 0, 0, 0, 0, 0, 0, 0, 0, 0, 0, 0, 0, 0, 0, 0, 0, 0, 0, 0, 0, 0, 0, 0, 0, 0, 0, 0, 0, 0, 0, 0, 0]]
def r13_0 : List Rs := [.d 37 (.i 0)]
theorem mm13_0 : ob (runZ Tryz.prog T tabM13 100000 60 121 (mkAs T [234] x13_0) (fun _ => none) 0) (fun out => resC T false [.d 37] out) = some r13_0 := by kernel_rfl
noncomputable def tb13 : List (List V × List Rs) := [(x13_0, r13_0)]
theorem mem13 : SymOK Tryz.prog T 121 (pureS T false [234] (memF tb13)).dir := memo_ok (rk := [.d 37]) (runZ_ok (fu := 100000) (d := 60) follows T_ok tabM13_ok) (by kernel_rfl) ⟨mm13_0, trivial⟩
noncomputable def tabM14 : List (Nat × Sym) := (121, (pureS T false [234] (memF tb13)).dir) :: tabM13
theorem tabM14_ok : AllS Tryz.prog T tabM14 := ⟨mem13, tabM13_ok⟩
noncomputable abbrev tabZ : List (Nat × Sym) := tabM14
theorem tabZ_ok : AllS Tryz.prog T tabZ := tabM14_ok
theorem law_run : ansB true (runZ Tryz.prog T tabZ 100000 60 3 [] (fun _ => none) 0) = true := by kernel_rfl
end Go.Proofs.YteagfgbajnihjaaGreat
end

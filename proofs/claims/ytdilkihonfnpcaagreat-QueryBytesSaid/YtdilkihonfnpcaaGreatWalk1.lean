/- What functions compute, and the law run. -/
import Derived.Test.YtdilkihonfnpcaaGreatTy
import Derived.Test.YtdilkihonfnpcaaGreatVm10
import Derived.Test.YtdilkihonfnpcaaGreatVm12
import Derived.Test.YtdilkihonfnpcaaGreatVm11
import Derived.Test.YtdilkihonfnpcaaGreatVm13
set_option linter.constructorNameAsVariable false
set_option linter.unusedVariables false
set_option linter.unusedSimpArgs false
noncomputable section
namespace Go.Proofs.YtdilkihonfnpcaaGreat
open Go.Vm
set_option maxRecDepth 100000
set_option linter.unusedVariables false
noncomputable def tab1 : List (Nat × SymC) := []
theorem tab1_ok : TabOK Tryz.prog T tab1 := tabOK_nil
noncomputable def K1 : KC := runAC Tryz.prog T tab1 false FU 4
theorem hK1 : K1.nat := runAC_nat tab1_ok 4
theorem hS1 : KOK Tryz.prog T K1.dir := runAC_ok follows T_ok tab1_ok 4
def tmSpA : PSpA → Vm.St
  | .m x z i w => ⟨[(0, .v 29 x), (2, .p 0 360 []), (3, .p 1 360 []), (8, .i .i64 i)], (.n (some (.box 360 (.v 360 z) false)) (.n (some (.box 360 (.v 360 w) false)) .e .e) .e), [], 2, some []⟩
def ekSpA (R : Type) (kx : Exit → Vm.St → Option R) : QSpA → Option R
  | .o x z i w => kx (.exit 0) ⟨[(0, .v 29 x), (2, .p 0 360 []), (3, .p 1 360 []), (8, .i .i64 i)], (.n (some (.box 360 (.v 360 z) false)) (.n (some (.box 360 (.v 360 w) false)) .e .e) .e), [], 16, some []⟩
def extSpA : Vm.St → Option PSpA
  | ⟨[(0, .v 29 x), (2, .p 0 360 []), (3, .p 1 360 []), (8, .i .i64 i)], (.n (some (.box 360 (.v 360 z) false)) (.n (some (.box 360 (.v 360 w) false)) .e .e) .e), [], 2, some []⟩ => some (.m x z i w)
  | _ => none
theorem extSpA_ok (τ : Vm.St) (x : PSpA) (h : extSpA τ = some x) : τ = tmSpA x := by
  unfold extSpA at h
  split at h <;> first | (cases h; rfl) | cases h
theorem stepSpA (R : Type) (of : Nat → Option Ob) (x : PSpA) (K : Vm.St → Option R) (kx : Exit → Vm.St → Option R) : execC T K1 (fun _ => none) false FU (ntOf Tryz.prog 225) of R (lp (codeOf Tryz.prog 225) 0) (tmSpA x) (sortN 0 [0, 2, 3, 8] 16 K kx) = BSpA R x (fun x' => K (tmSpA x')) (ekSpA R kx) := by
  cases x
  · kernel_rfl
noncomputable def HSpA : LS := loopH T K1 (fun _ => none) (ntOf Tryz.prog 225) (lp (codeOf Tryz.prog 225) 0) 0 [0, 2, 3, 8] 16 extSpA BSpA ekSpA
theorem HSpA_ok : LoopTk Tryz.prog T (ntOf Tryz.prog 225) 0 (lp (codeOf Tryz.prog 225) 0) HSpA :=
  loopH_ok follows T_ok hK1 hS1 loNat_none (loopsOK_none _) tmSpA extSpA_ok stepSpA
def tmSpB : PSpB → Vm.St
  | .m z i w => ⟨[(2, .p 0 360 []), (3, .p 1 360 []), (5, .i .i64 i)], (.n (some (.box 360 (.v 360 z) false)) (.n (some (.box 360 (.v 360 w) false)) .e .e) .e), [], 2, some []⟩
def ekSpB (R : Type) (kx : Exit → Vm.St → Option R) : QSpB → Option R
  | .o z i w => kx (.exit 2) ⟨[(2, .p 0 360 []), (3, .p 1 360 []), (5, .i .i64 i)], (.n (some (.box 360 (.v 360 z) false)) (.n (some (.box 360 (.v 360 w) false)) .e .e) .e), [], 16, some []⟩
def extSpB : Vm.St → Option PSpB
  | ⟨[(2, .p 0 360 []), (3, .p 1 360 []), (5, .i .i64 i)], (.n (some (.box 360 (.v 360 z) false)) (.n (some (.box 360 (.v 360 w) false)) .e .e) .e), [], 2, some []⟩ => some (.m z i w)
  | _ => none
theorem extSpB_ok (τ : Vm.St) (x : PSpB) (h : extSpB τ = some x) : τ = tmSpB x := by
  unfold extSpB at h
  split at h <;> first | (cases h; rfl) | cases h
theorem stepSpB (R : Type) (of : Nat → Option Ob) (x : PSpB) (K : Vm.St → Option R) (kx : Exit → Vm.St → Option R) : execC T K1 (fun _ => none) false FU (ntOf Tryz.prog 225) of R (lp (codeOf Tryz.prog 225) 1) (tmSpB x) (sortN 0 [2, 3, 5] 16 K kx) = BSpB R x (fun x' => K (tmSpB x')) (ekSpB R kx) := by
  cases x
  · kernel_rfl
noncomputable def HSpB : LS := loopH T K1 (fun _ => none) (ntOf Tryz.prog 225) (lp (codeOf Tryz.prog 225) 1) 0 [2, 3, 5] 16 extSpB BSpB ekSpB
theorem HSpB_ok : LoopTk Tryz.prog T (ntOf Tryz.prog 225) 0 (lp (codeOf Tryz.prog 225) 1) HSpB :=
  loopH_ok follows T_ok hK1 hS1 loNat_none (loopsOK_none _) tmSpB extSpB_ok stepSpB
noncomputable def LoSp : Nat → LC := atN 0 [(3, HSpA), (8, HSpB)]
theorem LoSp_ok : LoopsC Tryz.prog T 225 LoSp := loopsC_at 0 (List.forall_mem_cons.2 ⟨HSpA_ok.1, List.forall_mem_cons.2 ⟨HSpB_ok.1, fun _ h => by cases h⟩⟩) 2 (by kernel_rfl) ⟨⟨trivial, loI (s0 := HSpA) (by kernel_rfl) HSpA_ok⟩, loI (s0 := HSpB) (by kernel_rfl) HSpB_ok⟩
noncomputable def Gsp : FC := fun R xs k => match xs with
  | [x] => lpC (BSpA R) (hid FU) (.m x z64 0 z64) (fun | .o _ z _ w => lpC (BSpB R) (hid FU) (.m z 16 w) (fun | .o _ _ w => k [.d 360 w]))
  | _ => none
theorem run_sp (R : Type) (x : V) (k : List Rs → Option R) : runFC Tryz.prog T K1 LoSp false FU 225 R (mkAs T [29] [x]) (fun _ => none) 0 (fun out => ob (resC T false [.d 360] out) k) = Gsp R [x] k := by kernel_rfl
noncomputable def tab2 : List (Nat × SymC) := (225, pureS T false [29] (Fsp 360)) :: tab1
theorem tab2_ok : TabOK Tryz.prog T tab2 := by
  refine pure_run (sh := false) (rk := [.d 360]) (d := 4) (fu := FU) (Lo := LoSp) (G := Gsp) follows T_ok tab1_ok (Fsp_nat 360) (by kernel_rfl) LoSp_ok (fun R xs k htv => ?_) (fun xs rs htv hrs => ?_)
  · match xs, htv.len with
    | [x], _ => exact run_sp R x k
  · match xs, htv, htv.len with
    | [x], htv, _ =>
      obtain ⟨e, cs, hx⟩ := htv.head
      obtain ⟨bs, h1, h2⟩ := tv_slice (T := T) (el := 5) (kd := .u8) (by kernel_rfl) (by kernel_rfl) rfl hx
      simp only [Fsp] at hrs
      cases hl : Nat.ble 64 x.els.length with
      | false => rw [hl] at hrs; cases hrs
      | true =>
        rw [hl] at hrs
        have hl := Nat.le_of_ble_eq_true hl
        rw [h1, List.length_map] at hl
        exact (spread_law h1 (lt256 h2) hl HID (fun w => some [Rs.d 360 w])).trans hrs
noncomputable def K2 : KC := runAC Tryz.prog T tab2 false FU 4
theorem hK2 : K2.nat := runAC_nat tab2_ok 4
theorem hS2 : KOK Tryz.prog T K2.dir := runAC_ok follows T_ok tab2_ok 4
def tmMxA : PMxA → Vm.St
  | .m s z w k x i => ⟨[(2, .p 0 338 []), (4, .p 1 338 []), (5, .p 3 360 []), (6, .p 4 360 []), (7, .p 5 338 []), (18, .i .i64 i)], (.n (some (.box 338 (.v 338 s) false)) (.n (some (.box 338 (.v 338 z) false)) (.n (some (.box 360 (.v 360 w) false)) .e .e) (.n (some (.box 338 (.v 338 x) false)) .e .e)) (.n none (.n (some (.box 360 (.v 360 k) false)) .e .e) .e)), [], 6, some []⟩
def ekMxA (R : Type) (kx : Exit → Vm.St → Option R) : QMxA → Option R
  | .o s z w k x i => kx (.exit 0) ⟨[(2, .p 0 338 []), (4, .p 1 338 []), (5, .p 3 360 []), (6, .p 4 360 []), (7, .p 5 338 []), (18, .i .i64 i)], (.n (some (.box 338 (.v 338 s) false)) (.n (some (.box 338 (.v 338 z) false)) (.n (some (.box 360 (.v 360 w) false)) .e .e) (.n (some (.box 338 (.v 338 x) false)) .e .e)) (.n none (.n (some (.box 360 (.v 360 k) false)) .e .e) .e)), [], 16, some []⟩
def extMxA : Vm.St → Option PMxA
  | ⟨[(2, .p 0 338 []), (4, .p 1 338 []), (5, .p 3 360 []), (6, .p 4 360 []), (7, .p 5 338 []), (18, .i .i64 i)], (.n (some (.box 338 (.v 338 s) false)) (.n (some (.box 338 (.v 338 z) false)) (.n (some (.box 360 (.v 360 w) false)) .e .e) (.n (some (.box 338 (.v 338 x) false)) .e .e)) (.n none (.n (some (.box 360 (.v 360 k) false)) .e .e) .e)), [], 6, some []⟩ => some (.m s z w k x i)
  | _ => none
theorem extMxA_ok (τ : Vm.St) (x : PMxA) (h : extMxA τ = some x) : τ = tmMxA x := by
  unfold extMxA at h
  split at h <;> first | (cases h; rfl) | cases h
theorem stepMxA (R : Type) (of : Nat → Option Ob) (x : PMxA) (K : Vm.St → Option R) (kx : Exit → Vm.St → Option R) : execC T K2 (fun _ => none) false FU (ntOf Tryz.prog 205) of R (lp (codeOf Tryz.prog 205) 0) (tmMxA x) (sortN 0 [2, 4, 5, 6, 7, 18] 16 K kx) = BMxA R x (fun x' => K (tmMxA x')) (ekMxA R kx) := by
  cases x
  · kernel_rfl
noncomputable def HMxA : LS := loopH T K2 (fun _ => none) (ntOf Tryz.prog 205) (lp (codeOf Tryz.prog 205) 0) 0 [2, 4, 5, 6, 7, 18] 16 extMxA BMxA ekMxA
theorem HMxA_ok : LoopTk Tryz.prog T (ntOf Tryz.prog 205) 0 (lp (codeOf Tryz.prog 205) 0) HMxA :=
  loopH_ok follows T_ok hK2 hS2 loNat_none (loopsOK_none _) tmMxA extMxA_ok stepMxA
def tmMxB : PMxB → Vm.St
  | .m s z x i => ⟨[(2, .p 0 338 []), (4, .p 1 338 []), (7, .p 5 338 []), (98, .i .i64 i)], (.n (some (.box 338 (.v 338 s) false)) (.n (some (.box 338 (.v 338 z) false)) .e (.n (some (.box 338 (.v 338 x) false)) .e .e)) .e), [], 6, some []⟩
def ekMxB (R : Type) (kx : Exit → Vm.St → Option R) : QMxB → Option R
  | .o s z x i => kx (.exit 2) ⟨[(2, .p 0 338 []), (4, .p 1 338 []), (7, .p 5 338 []), (98, .i .i64 i)], (.n (some (.box 338 (.v 338 s) false)) (.n (some (.box 338 (.v 338 z) false)) .e (.n (some (.box 338 (.v 338 x) false)) .e .e)) .e), [], 16, some []⟩
def extMxB : Vm.St → Option PMxB
  | ⟨[(2, .p 0 338 []), (4, .p 1 338 []), (7, .p 5 338 []), (98, .i .i64 i)], (.n (some (.box 338 (.v 338 s) false)) (.n (some (.box 338 (.v 338 z) false)) .e (.n (some (.box 338 (.v 338 x) false)) .e .e)) .e), [], 6, some []⟩ => some (.m s z x i)
  | _ => none
theorem extMxB_ok (τ : Vm.St) (x : PMxB) (h : extMxB τ = some x) : τ = tmMxB x := by
  unfold extMxB at h
  split at h <;> first | (cases h; rfl) | cases h
theorem stepMxB (R : Type) (of : Nat → Option Ob) (x : PMxB) (K : Vm.St → Option R) (kx : Exit → Vm.St → Option R) : execC T K2 (fun _ => none) false FU (ntOf Tryz.prog 205) of R (lp (codeOf Tryz.prog 205) 1) (tmMxB x) (sortN 0 [2, 4, 7, 98] 16 K kx) = BMxB R x (fun x' => K (tmMxB x')) (ekMxB R kx) := by
  cases x
  · kernel_rfl
noncomputable def HMxB : LS := loopH T K2 (fun _ => none) (ntOf Tryz.prog 205) (lp (codeOf Tryz.prog 205) 1) 0 [2, 4, 7, 98] 16 extMxB BMxB ekMxB
theorem HMxB_ok : LoopTk Tryz.prog T (ntOf Tryz.prog 205) 0 (lp (codeOf Tryz.prog 205) 1) HMxB :=
  loopH_ok follows T_ok hK2 hS2 loNat_none (loopsOK_none _) tmMxB extMxB_ok stepMxB
noncomputable def LoMx : Nat → LC := atN 0 [(3, HMxA), (11, HMxB)]
theorem LoMx_ok : LoopsC Tryz.prog T 205 LoMx := loopsC_at 0 (List.forall_mem_cons.2 ⟨HMxA_ok.1, List.forall_mem_cons.2 ⟨HMxB_ok.1, fun _ h => by cases h⟩⟩) 2 (by kernel_rfl) ⟨⟨trivial, loI (s0 := HMxA) (by kernel_rfl) HMxA_ok⟩, loI (s0 := HMxB) (by kernel_rfl) HMxB_ok⟩
noncomputable def Gmx : FC := fun R xs k => match xs with
  | [s, b] => bif Nat.ble 64 b.els.length then lpC (BMxA R) (hid FU) (.m s z8 (spW b) keysV s 0) (fun | .o s z _ _ x _ => lpC (BMxB R) (hid FU) (.m s z x 0) (fun | .o s _ _ _ => k [.d 338 s])) else none
  | _ => none
theorem run_mx (R : Type) (s b : V) (k : List Rs → Option R) : runFC Tryz.prog T K2 LoMx false FU 205 R (mkAs T [338, 29] [s, b]) (fun _ => none) 0 (fun out => ob (resC T false [.d 338] out) k) = Gmx R [s, b] k := by kernel_rfl
noncomputable def tab3 : List (Nat × SymC) := (205, pureS T false [338, 29] (Fmx 338)) :: tab2
theorem tab3_ok : TabOK Tryz.prog T tab3 := by
  refine pure_run (sh := false) (rk := [.d 338]) (d := 4) (fu := FU) (Lo := LoMx) (G := Gmx) follows T_ok tab2_ok (Fmx_nat 338) (by kernel_rfl) LoMx_ok (fun R xs k htv => ?_) (fun xs rs htv hrs => ?_)
  · match xs, htv.len with
    | [s, b], _ => exact run_mx R s b k
  · match xs, htv, htv.len with
    | [s, b], htv, _ =>
      obtain ⟨e, cs, hs⟩ := htv.head
      obtain ⟨e2, cs2, hx⟩ := htv.tail.head
      obtain ⟨bs, h1, h2⟩ := tv_slice (T := T) (el := 5) (kd := .u8) (by kernel_rfl) (by kernel_rfl) rfl hx
      obtain ⟨ns, rfl, n1, n2⟩ := tv_arr (T := T) (n := 8) (el := 24) (kd := .u32) (by kernel_rfl) (by kernel_rfl) rfl hs
      obtain ⟨s8, hs8, hok⟩ := stV_of n1 n2
      rw [hs8] at hrs ⊢
      simp only [Fmx] at hrs
      cases hl : Nat.ble 64 b.els.length with
      | false => rw [hl] at hrs; cases hrs
      | true =>
        rw [hl] at hrs
        simp only [Gmx, hl, cond_true]
        have hl := Nat.le_of_ble_eq_true hl
        rw [h1, List.length_map] at hl
        exact (mix_law hok h1 (lt256 h2) hl HID (fun w => some [Rs.d 338 w])).trans hrs
noncomputable def K3 : KC := runAC Tryz.prog T tab3 false FU 4
theorem hK3 : K3.nat := runAC_nat tab3_ok 4
theorem hS3 : KOK Tryz.prog T K3.dir := runAC_ok follows T_ok tab3_ok 4
end Go.Proofs.YtdilkihonfnpcaaGreat

namespace Go.Proofs.YtdilkihonfnpcaaGreat.al
open Go.Vm
set_option maxRecDepth 100000
set_option linter.unusedVariables false
def tmPdA : PPdA → Vm.St
  | .m b xs => ⟨[(0, .v 29 b), (3, .o 1 1)], (.n none (.n (some (.row 5 1 xs false false)) .e .e) .e), [], 2, some []⟩
def ekPdA (R : Type) (kx : Exit → Vm.St → Option R) : QPdA → Option R
  | .o b xs => kx (.exit 0) ⟨[(0, .v 29 b), (3, .o 1 1)], (.n none (.n (some (.row 5 1 xs false false)) .e .e) .e), [], 8, some []⟩
def extPdA : Vm.St → Option PPdA
  | ⟨[(0, .v 29 b), (3, .o 1 1)], (.n none (.n (some (.row 5 1 xs false false)) .e .e) .e), [], 2, some []⟩ => some (.m b xs)
  | _ => none
theorem extPdA_ok (τ : Vm.St) (x : PPdA) (h : extPdA τ = some x) : τ = tmPdA x := by
  unfold extPdA at h
  split at h <;> first | (cases h; rfl) | cases h
theorem stepPdA (R : Type) (of : Nat → Option Ob) (x : PPdA) (K : Vm.St → Option R) (kx : Exit → Vm.St → Option R) : execC T K3 (fun _ => none) false FU (ntOf Tryz.prog 155) of R (lp (codeOf Tryz.prog 155) 0) (tmPdA x) (sortN 0 [0, 3] 8 K kx) = BPdA R x (fun x' => K (tmPdA x')) (ekPdA R kx) := by
  cases x
  · kernel_rfl
noncomputable def HPdA : LS := loopH T K3 (fun _ => none) (ntOf Tryz.prog 155) (lp (codeOf Tryz.prog 155) 0) 0 [0, 3] 8 extPdA BPdA ekPdA
theorem HPdA_ok : LoopTk Tryz.prog T (ntOf Tryz.prog 155) 0 (lp (codeOf Tryz.prog 155) 0) HPdA :=
  loopH_ok follows T_ok hK3 hS3 loNat_none (loopsOK_none _) tmPdA extPdA_ok stepPdA
noncomputable def LoPd : Nat → LC := atN 0 [(2, HPdA)]
theorem LoPd_ok : LoopsC Tryz.prog T 155 LoPd := loopsC_at 0 (List.forall_mem_cons.2 ⟨HPdA_ok.1, fun _ h => by cases h⟩) 2 (by kernel_rfl) ⟨⟨trivial, loI (s0 := HPdA) (by kernel_rfl) HPdA_ok⟩, loN (by kernel_rfl)⟩

theorem run_pd (R : Type) (b : V) (k : List Rs → Option R) : runFC Tryz.prog T K3 LoPd false FU 155 R (mkAs T [29] [b]) (fun _ => none) 0 (fun out => ob (resC T false [.r 5] out) k) = Gpd 5 R [b] k := by kernel_rfl
noncomputable def tab4 : List (Nat × SymC) := (155, pureS T false [29] (Fpd 5)) :: tab3
theorem tab4_ok : TabOK Tryz.prog T tab4 := by
  refine pure_run (sh := false) (rk := [.r 5]) (d := 4) (fu := FU) (Lo := LoPd) (G := Gpd 5) follows T_ok tab3_ok (Fpd_nat 5) (by kernel_rfl) LoPd_ok (fun R xs k htv => ?_) (fun xs rs htv hrs => ?_)
  · match xs, htv.len with
    | [b], _ => exact run_pd R b k
  · match xs, htv.len with
    | [b], _ => exact pd_law 5 hrs
noncomputable def K4 : KC := runAC Tryz.prog T tab4 false FU 4
theorem hK4 : K4.nat := runAC_nat tab4_ok 4
theorem hS4 : KOK Tryz.prog T K4.dir := runAC_ok follows T_ok tab4_ok 4
def tmSmA : PSmA → Vm.St
  | .m z v xs kk at_ ws i => ⟨[(2, .p 0 23 []), (3, .p 1 282 []), (4, .o 2 1), (5, .p 4 283 []), (6, .i .i64 at_), (7, .o 5 1), (8, .i .i64 i)], (.n (some (.box 23 (.v 23 z) false)) (.n (some (.box 282 (.v 282 v) false)) .e (.n (some (.row 58 1 ws false false)) .e .e)) (.n (some (.row 5 1 xs false false)) (.n (some (.box 283 (.v 283 kk) false)) .e .e) .e)), [], 6, some []⟩
def ekSmA (R : Type) (kx : Exit → Vm.St → Option R) : QSmA → Option R
  | .o z v xs kk at_ ws i => kx (.exit 2) ⟨[(2, .p 0 23 []), (3, .p 1 282 []), (4, .o 2 1), (5, .p 4 283 []), (6, .i .i64 at_), (7, .o 5 1), (8, .i .i64 i)], (.n (some (.box 23 (.v 23 z) false)) (.n (some (.box 282 (.v 282 v) false)) .e (.n (some (.row 58 1 ws false false)) .e .e)) (.n (some (.row 5 1 xs false false)) (.n (some (.box 283 (.v 283 kk) false)) .e .e) .e)), [], 16, some []⟩
def extSmA : Vm.St → Option PSmA
  | ⟨[(2, .p 0 23 []), (3, .p 1 282 []), (4, .o 2 1), (5, .p 4 283 []), (6, .i .i64 at_), (7, .o 5 1), (8, .i .i64 i)], (.n (some (.box 23 (.v 23 z) false)) (.n (some (.box 282 (.v 282 v) false)) .e (.n (some (.row 58 1 ws false false)) .e .e)) (.n (some (.row 5 1 xs false false)) (.n (some (.box 283 (.v 283 kk) false)) .e .e) .e)), [], 6, some []⟩ => some (.m z v xs kk at_ ws i)
  | _ => none
theorem extSmA_ok (τ : Vm.St) (x : PSmA) (h : extSmA τ = some x) : τ = tmSmA x := by
  unfold extSmA at h
  split at h <;> first | (cases h; rfl) | cases h
theorem stepSmA (R : Type) (of : Nat → Option Ob) (x : PSmA) (K : Vm.St → Option R) (kx : Exit → Vm.St → Option R) : execC T K4 (fun _ => none) false FU (ntOf Tryz.prog 106) of R (lp (codeOf Tryz.prog 106) 1) (tmSmA x) (sortN 0 [2, 3, 4, 5, 6, 7, 8] 16 K kx) = BSmA R x (fun x' => K (tmSmA x')) (ekSmA R kx) := by
  cases x
  · kernel_rfl
noncomputable def HSmA : LS := loopH T K4 (fun _ => none) (ntOf Tryz.prog 106) (lp (codeOf Tryz.prog 106) 1) 0 [2, 3, 4, 5, 6, 7, 8] 16 extSmA BSmA ekSmA
theorem HSmA_ok : LoopTk Tryz.prog T (ntOf Tryz.prog 106) 0 (lp (codeOf Tryz.prog 106) 1) HSmA :=
  loopH_ok follows T_ok hK4 hS4 loNat_none (loopsOK_none _) tmSmA extSmA_ok stepSmA
def tmSmB : PSmB → Vm.St
  | .m z v xs kk at_ ws x i => ⟨[(2, .p 0 23 []), (3, .p 1 282 []), (4, .o 2 1), (5, .p 4 283 []), (6, .i .i64 at_), (7, .o 5 1), (13, .p 16 282 []), (14, .i .i64 i)], (.n (some (.box 23 (.v 23 z) false)) (.n (some (.box 282 (.v 282 v) false)) .e (.n (some (.row 58 1 ws false false)) .e .e)) (.n (some (.row 5 1 xs false false)) (.n (some (.box 283 (.v 283 kk) false)) (.n none (.n (some (.box 282 (.v 282 x) false)) .e .e) .e) .e) .e)), [], 17, some []⟩
def ekSmB (R : Type) (kx : Exit → Vm.St → Option R) : QSmB → Option R
  | .o z v xs kk at_ ws x i => kx (.exit 6) ⟨[(2, .p 0 23 []), (3, .p 1 282 []), (4, .o 2 1), (5, .p 4 283 []), (6, .i .i64 at_), (7, .o 5 1), (13, .p 16 282 []), (14, .i .i64 i)], (.n (some (.box 23 (.v 23 z) false)) (.n (some (.box 282 (.v 282 v) false)) .e (.n (some (.row 58 1 ws false false)) .e .e)) (.n (some (.row 5 1 xs false false)) (.n (some (.box 283 (.v 283 kk) false)) (.n none (.n (some (.box 282 (.v 282 x) false)) .e .e) .e) .e) .e)), [], 32, some []⟩
def extSmB : Vm.St → Option PSmB
  | ⟨[(2, .p 0 23 []), (3, .p 1 282 []), (4, .o 2 1), (5, .p 4 283 []), (6, .i .i64 at_), (7, .o 5 1), (13, .p 16 282 []), (14, .i .i64 i)], (.n (some (.box 23 (.v 23 z) false)) (.n (some (.box 282 (.v 282 v) false)) .e (.n (some (.row 58 1 ws false false)) .e .e)) (.n (some (.row 5 1 xs false false)) (.n (some (.box 283 (.v 283 kk) false)) (.n none (.n (some (.box 282 (.v 282 x) false)) .e .e) .e) .e) .e)), [], 17, some []⟩ => some (.m z v xs kk at_ ws x i)
  | _ => none
theorem extSmB_ok (τ : Vm.St) (x : PSmB) (h : extSmB τ = some x) : τ = tmSmB x := by
  unfold extSmB at h
  split at h <;> first | (cases h; rfl) | cases h
theorem stepSmB (R : Type) (of : Nat → Option Ob) (x : PSmB) (K : Vm.St → Option R) (kx : Exit → Vm.St → Option R) : execC T K4 (fun _ => none) false FU (ntOf Tryz.prog 106) of R (lp (codeOf Tryz.prog 106) 3) (tmSmB x) (sortN 0 [2, 3, 4, 5, 6, 7, 13, 14] 32 K kx) = BSmB R x (fun x' => K (tmSmB x')) (ekSmB R kx) := by
  cases x
  · kernel_rfl
noncomputable def HSmB : LS := loopH T K4 (fun _ => none) (ntOf Tryz.prog 106) (lp (codeOf Tryz.prog 106) 3) 0 [2, 3, 4, 5, 6, 7, 13, 14] 32 extSmB BSmB ekSmB
theorem HSmB_ok : LoopTk Tryz.prog T (ntOf Tryz.prog 106) 0 (lp (codeOf Tryz.prog 106) 3) HSmB :=
  loopH_ok follows T_ok hK4 hS4 loNat_none (loopsOK_none _) tmSmB extSmB_ok stepSmB
def tmSmO : PSmO → Vm.St
  | .m z v xs kk at_ => ⟨[(2, .p 0 23 []), (3, .p 1 282 []), (4, .o 2 1), (5, .p 4 283 []), (6, .i .i64 at_)], (.n (some (.box 23 (.v 23 z) false)) (.n (some (.box 282 (.v 282 v) false)) .e .e) (.n (some (.row 5 1 xs false false)) (.n (some (.box 283 (.v 283 kk) false)) .e .e) .e)), [], 5, some []⟩
def ekSmO (R : Type) (kx : Exit → Vm.St → Option R) : QSmO → Option R
  | .o z v xs kk at_ => kx (.exit 0) ⟨[(2, .p 0 23 []), (3, .p 1 282 []), (4, .o 2 1), (5, .p 4 283 []), (6, .i .i64 at_)], (.n (some (.box 23 (.v 23 z) false)) (.n (some (.box 282 (.v 282 v) false)) .e .e) (.n (some (.row 5 1 xs false false)) (.n (some (.box 283 (.v 283 kk) false)) .e .e) .e)), [], 64, some []⟩
def extSmO : Vm.St → Option PSmO
  | ⟨[(2, .p 0 23 []), (3, .p 1 282 []), (4, .o 2 1), (5, .p 4 283 []), (6, .i .i64 at_)], (.n (some (.box 23 (.v 23 z) false)) (.n (some (.box 282 (.v 282 v) false)) .e .e) (.n (some (.row 5 1 xs false false)) (.n (some (.box 283 (.v 283 kk) false)) .e .e) .e)), [], 5, some []⟩ => some (.m z v xs kk at_)
  | _ => none
theorem extSmO_ok (τ : Vm.St) (x : PSmO) (h : extSmO τ = some x) : τ = tmSmO x := by
  unfold extSmO at h
  split at h <;> first | (cases h; rfl) | cases h
theorem stepSmO (R : Type) (of : Nat → Option Ob) (x : PSmO) (K : Vm.St → Option R) (kx : Exit → Vm.St → Option R) : execC T K4 (loT [(9, HSmA), (23, HSmB)]) false FU (ntOf Tryz.prog 106) of R (lp (codeOf Tryz.prog 106) 0) (tmSmO x) (sortN 0 [2, 3, 4, 5, 6] 64 K kx) = BSmO R x (fun x' => K (tmSmO x')) (ekSmO R kx) := by
  cases x
  · kernel_rfl
noncomputable def HSmO : LS := loopH T K4 (loT [(9, HSmA), (23, HSmB)]) (ntOf Tryz.prog 106) (lp (codeOf Tryz.prog 106) 0) 0 [2, 3, 4, 5, 6] 64 extSmO BSmO ekSmO
theorem HSmO_ok : LoopTk Tryz.prog T (ntOf Tryz.prog 106) 0 (lp (codeOf Tryz.prog 106) 0) HSmO :=
  loopH_ok follows T_ok hK4 hS4 (loT_nat (List.forall_mem_cons.2 ⟨HSmA_ok.1, List.forall_mem_cons.2 ⟨HSmB_ok.1, fun _ h => by cases h⟩⟩)) (loopsOK_at 5 (by kernel_rfl) ⟨⟨⟨⟨⟨trivial, loI (s0 := HSmA) (by kernel_rfl) ((show lp (lp (codeOf Tryz.prog 106) 0) 0 = lp (codeOf Tryz.prog 106) 1 from by kernel_rfl) ▸ HSmA_ok)⟩, loN (by kernel_rfl)⟩, loI (s0 := HSmB) (by kernel_rfl) ((show lp (lp (codeOf Tryz.prog 106) 0) 2 = lp (codeOf Tryz.prog 106) 3 from by kernel_rfl) ▸ HSmB_ok)⟩, loN (by kernel_rfl)⟩, loN (by kernel_rfl)⟩) tmSmO extSmO_ok stepSmO
noncomputable def LoSm : Nat → LC := atN 0 [(5, HSmO)]
theorem LoSm_ok : LoopsC Tryz.prog T 106 LoSm := loopsC_at 0 (List.forall_mem_cons.2 ⟨HSmO_ok.1, fun _ h => by cases h⟩) 8 (by kernel_rfl) ⟨⟨⟨⟨⟨⟨⟨⟨trivial, loI (s0 := HSmO) (by kernel_rfl) HSmO_ok⟩, loN (by kernel_rfl)⟩, loN (by kernel_rfl)⟩, loN (by kernel_rfl)⟩, loN (by kernel_rfl)⟩, loN (by kernel_rfl)⟩, loN (by kernel_rfl)⟩, loN (by kernel_rfl)⟩

theorem run_sm (R : Type) (b : V) (k : List Rs → Option R) : runFC Tryz.prog T K4 LoSm false FU 106 R (mkAs T [29] [b]) (fun _ => none) 0 (fun out => ob (resC T false [.d 23] out) k) = Gsm 23 R [b] k := by kernel_rfl
noncomputable def tab5 : List (Nat × SymC) := (106, pureS T false [29] (Fsm 23)) :: tab4
theorem tab5_ok : TabOK Tryz.prog T tab5 := by
  refine pure_run (sh := false) (rk := [.d 23]) (d := 4) (fu := FU) (Lo := LoSm) (G := Gsm 23) follows T_ok tab4_ok (Fsm_nat 23) (by kernel_rfl) LoSm_ok (fun R xs k htv => ?_) (fun xs rs htv hrs => ?_)
  · match xs, htv.len with
    | [b], _ => exact run_sm R b k
  · match xs, htv, htv.len with
    | [b], htv, _ =>
      obtain ⟨e, cs, hx⟩ := htv.head
      obtain ⟨bs, h1, h2⟩ := tv_slice (T := T) (el := 5) (kd := .u8) (by kernel_rfl) (by kernel_rfl) rfl hx
      exact sm_law 23 h1 (lt256 h2) hrs
noncomputable def K5 : KC := runAC Tryz.prog T tab5 false FU 4
theorem hK5 : K5.nat := runAC_nat tab5_ok 4
theorem hS5 : KOK Tryz.prog T K5.dir := runAC_ok follows T_ok tab5_ok 4
end Go.Proofs.YtdilkihonfnpcaaGreat.al

namespace Go.Proofs.YtdilkihonfnpcaaGreat.al
open Go.Vm
set_option maxRecDepth 100000
set_option linter.unusedVariables false
def tmAd : PAd → Vm.St
  | .m a b xs c i => ⟨[(0, .v 48 a), (1, .v 48 b), (5, .o 1 1), (6, .i .u64 c), (7, .i .i64 i)], (.n none (.n (some (.row 58 1 xs false false)) .e .e) .e), [], 2, some []⟩
def ekAd (R : Type) (kx : Exit → Vm.St → Option R) : QAd → Option R
  | .o a b xs c i => kx (.exit 0) ⟨[(0, .v 48 a), (1, .v 48 b), (5, .o 1 1), (6, .i .u64 c), (7, .i .i64 i)], (.n none (.n (some (.row 58 1 xs false false)) .e .e) .e), [], 8, some []⟩
def extAd : Vm.St → Option PAd
  | ⟨[(0, .v 48 a), (1, .v 48 b), (5, .o 1 1), (6, .i .u64 c), (7, .i .i64 i)], (.n none (.n (some (.row 58 1 xs false false)) .e .e) .e), [], 2, some []⟩ => some (.m a b xs c i)
  | _ => none
theorem extAd_ok (τ : Vm.St) (x : PAd) (h : extAd τ = some x) : τ = tmAd x := by
  unfold extAd at h
  split at h <;> first | (cases h; rfl) | cases h
theorem stepAd (R : Type) (of : Nat → Option Ob) (x : PAd) (K : Vm.St → Option R) (kx : Exit → Vm.St → Option R) : execC T K5 (fun _ => none) false FU (ntOf Tryz.prog 68) of R (lp (codeOf Tryz.prog 68) 0) (tmAd x) (sortN 0 [0, 1, 5, 6, 7] 8 K kx) = BAd R x (fun x' => K (tmAd x')) (ekAd R kx) := by
  cases x
  · kernel_rfl
noncomputable def HAd : LS := loopH T K5 (fun _ => none) (ntOf Tryz.prog 68) (lp (codeOf Tryz.prog 68) 0) 0 [0, 1, 5, 6, 7] 8 extAd BAd ekAd
theorem HAd_ok : LoopTk Tryz.prog T (ntOf Tryz.prog 68) 0 (lp (codeOf Tryz.prog 68) 0) HAd :=
  loopH_ok follows T_ok hK5 hS5 loNat_none (loopsOK_none _) tmAd extAd_ok stepAd
noncomputable def LoAd : Nat → LC := atN 0 [(4, HAd)]
theorem LoAd_ok : LoopsC Tryz.prog T 68 LoAd := loopsC_at 0 (List.forall_mem_cons.2 ⟨HAd_ok.1, fun _ h => by cases h⟩) 1 (by kernel_rfl) ⟨trivial, loI (s0 := HAd) (by kernel_rfl) HAd_ok⟩

theorem run_ad (R : Type) (a b : V) (k : List Rs → Option R) : runFC Tryz.prog T K5 LoAd false FU 68 R (mkAs T [48, 48] [a, b]) (fun _ => none) 0 (fun out => ob (resC T false [.r 58] out) k) = Gad 58 R [a, b] k := by kernel_rfl
noncomputable def tab6 : List (Nat × SymC) := (68, pureS T false [48, 48] (Fad 58)) :: tab5
theorem tab6_ok : TabOK Tryz.prog T tab6 := by
  refine pure_run (sh := false) (rk := [.r 58]) (d := 4) (fu := FU) (Lo := LoAd) (G := Gad 58) follows T_ok tab5_ok (Fad_nat 58) (by kernel_rfl) LoAd_ok (fun R xs k htv => ?_) (fun xs rs htv hrs => ad_law 58 hrs)
  match xs, htv.len with
  | [a, b], _ => exact run_ad R a b k
def tmCp : PCp → Vm.St
  | .m a b r i => ⟨[(0, .v 48 a), (1, .v 48 b), (4, .i .i64 r), (5, .i .i64 i)], .e, [], 0, some []⟩
def ekCp (R : Type) (kx : Exit → Vm.St → Option R) : QCp → Option R
  | .r a b r i => kx (.ret) ⟨[(0, .v 48 a), (1, .v 48 b), (4, .i .i64 r), (5, .i .i64 i)], .e, [], 8, some []⟩
  | .o a b r i => kx (.exit 0) ⟨[(0, .v 48 a), (1, .v 48 b), (4, .i .i64 r), (5, .i .i64 i)], .e, [], 8, some []⟩
def extCp : Vm.St → Option PCp
  | ⟨[(0, .v 48 a), (1, .v 48 b), (4, .i .i64 r), (5, .i .i64 i)], .e, [], 0, some []⟩ => some (.m a b r i)
  | _ => none
theorem extCp_ok (τ : Vm.St) (x : PCp) (h : extCp τ = some x) : τ = tmCp x := by
  unfold extCp at h
  split at h <;> first | (cases h; rfl) | cases h
theorem stepCp (R : Type) (of : Nat → Option Ob) (x : PCp) (K : Vm.St → Option R) (kx : Exit → Vm.St → Option R) : execC T K5 (fun _ => none) false FU (ntOf Tryz.prog 109) of R (lp (codeOf Tryz.prog 109) 0) (tmCp x) (sortN 0 [0, 1, 4, 5] 8 K kx) = BCp R x (fun x' => K (tmCp x')) (ekCp R kx) := by
  cases x
  · kernel_rfl
noncomputable def HCp : LS := loopH T K5 (fun _ => none) (ntOf Tryz.prog 109) (lp (codeOf Tryz.prog 109) 0) 0 [0, 1, 4, 5] 8 extCp BCp ekCp
theorem HCp_ok : LoopTk Tryz.prog T (ntOf Tryz.prog 109) 0 (lp (codeOf Tryz.prog 109) 0) HCp :=
  loopH_ok follows T_ok hK5 hS5 loNat_none (loopsOK_none _) tmCp extCp_ok stepCp
noncomputable def LoCp : Nat → LC := atN 0 [(2, HCp)]
theorem LoCp_ok : LoopsC Tryz.prog T 109 LoCp := loopsC_at 0 (List.forall_mem_cons.2 ⟨HCp_ok.1, fun _ h => by cases h⟩) 1 (by kernel_rfl) ⟨trivial, loI (s0 := HCp) (by kernel_rfl) HCp_ok⟩
theorem run_cp (R : Type) (a b : V) (k : List Rs → Option R) : runFC Tryz.prog T K5 LoCp false FU 109 R (mkAs T [48, 48] [a, b]) (fun _ => none) 0 (fun out => ob (resC T false [.d 3] out) k) = Gcp 3 R [a, b] k := by kernel_rfl
noncomputable def tab7 : List (Nat × SymC) := (109, pureS T false [48, 48] (Fcp 3)) :: tab6
theorem tab7_ok : TabOK Tryz.prog T tab7 := by
  have h := pure_run (sh := false) (rk := [.d 3]) (d := 4) (fu := FU) (Lo := LoCp) (G := Gcp 3) follows T_ok tab5_ok (Fcp_nat 3) (by kernel_rfl) LoCp_ok (fun R xs k htv => (match xs, htv.len with
    | [a, b], _ => run_cp R a b k)) (fun xs rs htv hrs => cp_law 3 hrs)
  exact tab6_ok.cons (h _ _ (List.mem_cons_self ..)).1 (h _ _ (List.mem_cons_self ..)).2
noncomputable def K7 : KC := runAC Tryz.prog T tab7 false FU 4
theorem hK7 : K7.nat := runAC_nat tab7_ok 4
theorem hS7 : KOK Tryz.prog T K7.dir := runAC_ok follows T_ok tab7_ok 4
end Go.Proofs.YtdilkihonfnpcaaGreat.al

namespace Go.Proofs.YtdilkihonfnpcaaGreat.al
open Go.Vm
set_option maxRecDepth 100000
set_option linter.unusedVariables false
noncomputable def tabM0 : List (Nat × Sym) := [(205, (pureS T false [338, 29] (seeF (Fmx 338))).dir), (106, (pureS T false [29] (seeF (Fsm 23))).dir), (151, cmpS T 29), (210, carry64), (211, borrow64), (68, (pureS T false [48, 48] (seeF (Fad 58))).dir), (109, (pureS T false [48, 48] (seeF (Fcp 3))).dir)]
theorem tabM0_ok : AllS Tryz.prog T tabM0 := ⟨TabOK.see (TabOK.at tab3_ok (by kernel_rfl)), TabOK.see (TabOK.at tab5_ok (by kernel_rfl)), cmp_ok (u8 := 5) (by kernel_rfl) (by kernel_rfl) Tryz.func151 (by kernel_rfl) (by kernel_rfl) (by kernel_rfl) (by kernel_rfl), carry64_ok Tryz.func210 (by kernel_rfl) (by kernel_rfl) (by kernel_rfl) (by kernel_rfl), borrow64_ok Tryz.func211 (by kernel_rfl) (by kernel_rfl) (by kernel_rfl) (by kernel_rfl), TabOK.see (TabOK.at tab7_ok (by kernel_rfl)), TabOK.see (TabOK.at tab7_ok (by kernel_rfl)), trivial⟩
def x0_0 : List V := [.l [bl [66, 89, 78, 65, 77, 69, 48, 49, 0, 0, 0, 0, 0, 0, 0, 0]]]
def r0_0 : List Rs := [.d 23 (bl [71, 66, 67, 0, 176, 13, 250, 203, 11, 148, 245, 98, 82, 20, 154, 254, 250, 249, 227, 81, 47, 171, 162, 140, 8, 214, 161, 174, 225, 191, 151, 8])]
theorem mm0_0 : ob (runZ Tryz.prog T tabM0 100000 60 137 (mkAs T [115] x0_0) (fun _ => none) 0) (fun out => resC T false [.d 23] out) = some r0_0 := by kernel_rfl
def x0_1 : List V := [.l [bl [66, 89, 78, 65, 77, 69, 48, 49, 1, 0, 0, 0, 0, 0, 0, 0]]]
def r0_1 : List Rs := [.d 23 (bl [179, 131, 144, 54, 252, 253, 66, 41, 208, 173, 43, 136, 173, 134, 160, 110, 75, 169, 135, 124, 160, 72, 58, 186, 177, 179, 10, 195, 54, 68, 158, 250])]
theorem mm0_1 : ob (runZ Tryz.prog T tabM0 100000 60 137 (mkAs T [115] x0_1) (fun _ => none) 0) (fun out => resC T false [.d 23] out) = some r0_1 := by kernel_rfl
def x0_2 : List V := [.l [bl [179, 131, 144, 54, 252, 253, 66, 41, 208, 173, 43, 136, 173, 134, 160, 110, 75, 169, 135, 124, 160, 72, 58, 186, 177, 179, 10, 195, 54, 68, 158, 250], bl [1, 0, 0, 0, 1, 0]]]
def r0_2 : List Rs := [.d 23 (bl [19, 50, 224, 205, 10, 199, 4, 162, 2, 23, 157, 220, 228, 35, 189, 112, 155, 109, 234, 237, 62, 254, 160, 34, 187, 214, 247, 142, 233, 178, 85, 121])]
theorem mm0_2 : ob (runZ Tryz.prog T tabM0 100000 60 137 (mkAs T [115] x0_2) (fun _ => none) 0) (fun out => resC T false [.d 23] out) = some r0_2 := by kernel_rfl
def x0_3 : List V := [.l [bl [1, 0, 0, 0, 1, 0, 0, 0, 0, 0, 0, 0, 0, 0, 0, 0, 0, 0, 0, 0, 0, 0, 0, 0, 0, 0, 0, 0, 0, 0, 0, 0, 0, 0, 0, 0, 0, 255, 255, 255, 255, 6, 98, 121, 110, 97, 109, 101, 0, 0, 0, 0, 1, 0, 0, 0, 0, 0, 0, 0, 0, 1, 106, 0, 0, 0, 0]]]
def r0_3 : List Rs := [.d 23 (bl [164, 185, 97, 247, 26, 133, 138, 169, 23, 177, 220, 56, 79, 124, 5, 84, 3, 78, 40, 106, 254, 139, 168, 156, 129, 38, 228, 241, 249, 101, 157, 231])]
theorem mm0_3 : ob (runZ Tryz.prog T tabM0 100000 60 137 (mkAs T [115] x0_3) (fun _ => none) 0) (fun out => resC T false [.d 23] out) = some r0_3 := by kernel_rfl
def x0_4 : List V := [.l [bl [164, 185, 97, 247, 26, 133, 138, 169, 23, 177, 220, 56, 79, 124, 5, 84, 3, 78, 40, 106, 254, 139, 168, 156, 129, 38, 228, 241, 249, 101, 157, 231]]]
def r0_4 : List Rs := [.d 23 (bl [27, 228, 96, 192, 24, 233, 156, 161, 112, 96, 39, 161, 242, 105, 12, 172, 218, 72, 254, 74, 38, 146, 230, 38, 152, 188, 212, 98, 137, 78, 137, 234])]
theorem mm0_4 : ob (runZ Tryz.prog T tabM0 100000 60 137 (mkAs T [115] x0_4) (fun _ => none) 0) (fun out => resC T false [.d 23] out) = some r0_4 := by kernel_rfl
def x0_5 : List V := [.l [bl [1, 0, 0, 0, 0, 0, 0, 0, 0, 0, 0, 0, 0, 0, 0, 0, 0, 0, 0, 0, 0, 0, 0, 0, 0, 0, 0, 0, 0, 0, 0, 0, 0, 0, 0, 0, 27, 228, 96, 192, 24, 233, 156, 161, 112, 96, 39, 161, 242, 105, 12, 172, 218, 72, 254, 74, 38, 146, 230, 38, 152, 188, 212, 98, 137, 78, 137, 234, 0, 202, 154, 59, 255, 255, 127, 32, 0, 0, 0, 0]]]
def r0_5 : List Rs := [.d 23 (bl [30, 142, 222, 220, 65, 59, 120, 14, 231, 129, 242, 81, 22, 124, 166, 126, 57, 108, 10, 92, 117, 197, 61, 184, 88, 189, 119, 47, 216, 235, 59, 136])]
theorem mm0_5 : ob (runZ Tryz.prog T tabM0 100000 60 137 (mkAs T [115] x0_5) (fun _ => none) 0) (fun out => resC T false [.d 23] out) = some r0_5 := by kernel_rfl
def x0_6 : List V := [.l [bl [30, 142, 222, 220, 65, 59, 120, 14, 231, 129, 242, 81, 22, 124, 166, 126, 57, 108, 10, 92, 117, 197, 61, 184, 88, 189, 119, 47, 216, 235, 59, 136]]]
def r0_6 : List Rs := [.d 23 (bl [5, 255, 175, 132, 180, 223, 70, 118, 53, 239, 142, 198, 68, 68, 87, 192, 226, 0, 188, 189, 184, 250, 48, 242, 15, 177, 159, 234, 32, 101, 91, 46])]
theorem mm0_6 : ob (runZ Tryz.prog T tabM0 100000 60 137 (mkAs T [115] x0_6) (fun _ => none) 0) (fun out => resC T false [.d 23] out) = some r0_6 := by kernel_rfl
noncomputable def tb0 : List (List V × List Rs) := [(x0_0, r0_0), (x0_1, r0_1), (x0_2, r0_2), (x0_3, r0_3), (x0_4, r0_4), (x0_5, r0_5), (x0_6, r0_6)]
theorem mem0 : SymOK Tryz.prog T 137 (pureS T false [115] (memF tb0)).dir := memo_ok (rk := [.d 23]) (runZ_ok (fu := 100000) (d := 60) follows T_ok tabM0_ok) (by kernel_rfl) ⟨mm0_0, mm0_1, mm0_2, mm0_3, mm0_4, mm0_5, mm0_6, trivial⟩
noncomputable def tabM1 : List (Nat × Sym) := (137, (pureS T false [115] (memF tb0)).dir) :: tabM0
theorem tabM1_ok : AllS Tryz.prog T tabM1 := ⟨mem0, tabM0_ok⟩
def x1_0 : List V := [bl [1, 0, 0, 0, 1, 0, 0, 0, 0, 0, 0, 0, 0, 0, 0, 0, 0, 0, 0, 0, 0, 0, 0, 0, 0, 0, 0, 0, 0, 0, 0, 0, 0, 0, 0, 0, 0, 255, 255, 255, 255, 6, 98, 121, 110, 97, 109, 101, 0, 0, 0, 0, 1, 0, 0, 0, 0, 0, 0, 0, 0, 1, 106, 0, 0, 0, 0]]
def r1_0 : List Rs := [.d 23 (bl [164, 185, 97, 247, 26, 133, 138, 169, 23, 177, 220, 56, 79, 124, 5, 84, 3, 78, 40, 106, 254, 139, 168, 156, 129, 38, 228, 241, 249, 101, 157, 231])]
theorem mm1_0 : ob (runZ Tryz.prog T tabM1 100000 60 106 (mkAs T [29] x1_0) (fun _ => none) 0) (fun out => resC T false [.d 23] out) = some r1_0 := by kernel_rfl
def x1_1 : List V := [bl [164, 185, 97, 247, 26, 133, 138, 169, 23, 177, 220, 56, 79, 124, 5, 84, 3, 78, 40, 106, 254, 139, 168, 156, 129, 38, 228, 241, 249, 101, 157, 231]]
def r1_1 : List Rs := [.d 23 (bl [27, 228, 96, 192, 24, 233, 156, 161, 112, 96, 39, 161, 242, 105, 12, 172, 218, 72, 254, 74, 38, 146, 230, 38, 152, 188, 212, 98, 137, 78, 137, 234])]
theorem mm1_1 : ob (runZ Tryz.prog T tabM1 100000 60 106 (mkAs T [29] x1_1) (fun _ => none) 0) (fun out => resC T false [.d 23] out) = some r1_1 := by kernel_rfl
def x1_2 : List V := [bl [1, 0, 0, 0, 0, 0, 0, 0, 0, 0, 0, 0, 0, 0, 0, 0, 0, 0, 0, 0, 0, 0, 0, 0, 0, 0, 0, 0, 0, 0, 0, 0, 0, 0, 0, 0, 27, 228, 96, 192, 24, 233, 156, 161, 112, 96, 39, 161, 242, 105, 12, 172, 218, 72, 254, 74, 38, 146, 230, 38, 152, 188, 212, 98, 137, 78, 137, 234, 0, 202, 154, 59, 255, 255, 127, 32, 0, 0, 0, 0]]
def r1_2 : List Rs := [.d 23 (bl [30, 142, 222, 220, 65, 59, 120, 14, 231, 129, 242, 81, 22, 124, 166, 126, 57, 108, 10, 92, 117, 197, 61, 184, 88, 189, 119, 47, 216, 235, 59, 136])]
theorem mm1_2 : ob (runZ Tryz.prog T tabM1 100000 60 106 (mkAs T [29] x1_2) (fun _ => none) 0) (fun out => resC T false [.d 23] out) = some r1_2 := by kernel_rfl
def x1_3 : List V := [bl [30, 142, 222, 220, 65, 59, 120, 14, 231, 129, 242, 81, 22, 124, 166, 126, 57, 108, 10, 92, 117, 197, 61, 184, 88, 189, 119, 47, 216, 235, 59, 136]]
def r1_3 : List Rs := [.d 23 (bl [5, 255, 175, 132, 180, 223, 70, 118, 53, 239, 142, 198, 68, 68, 87, 192, 226, 0, 188, 189, 184, 250, 48, 242, 15, 177, 159, 234, 32, 101, 91, 46])]
theorem mm1_3 : ob (runZ Tryz.prog T tabM1 100000 60 106 (mkAs T [29] x1_3) (fun _ => none) 0) (fun out => resC T false [.d 23] out) = some r1_3 := by kernel_rfl
noncomputable def tb1 : List (List V × List Rs) := [(x1_0, r1_0), (x1_1, r1_1), (x1_2, r1_2), (x1_3, r1_3)]
theorem mem1 : SymOK Tryz.prog T 106 (pureS T false [29] (memF tb1)).dir := memo_ok (rk := [.d 23]) (runZ_ok (fu := 100000) (d := 60) follows T_ok tabM1_ok) (by kernel_rfl) ⟨mm1_0, mm1_1, mm1_2, mm1_3, trivial⟩
noncomputable def tabM2 : List (Nat × Sym) := (106, (pureS T false [29] (memF tb1)).dir) :: tabM1
theorem tabM2_ok : AllS Tryz.prog T tabM2 := ⟨mem1, tabM1_ok⟩
def x2_0 : List V := [.l [.i 1, .l [.l [.l [bl [0, 0, 0, 0, 0, 0, 0, 0, 0, 0, 0, 0, 0, 0, 0, 0, 0, 0, 0, 0, 0, 0, 0, 0, 0, 0, 0, 0, 0, 0, 0, 0], .i 4294967295], bl [98, 121, 110, 97, 109, 101], .i 0]], .l [.l [.i 0, .l [.i 106]]], .i 0]]
def r2_0 : List Rs := [.d 23 (bl [27, 228, 96, 192, 24, 233, 156, 161, 112, 96, 39, 161, 242, 105, 12, 172, 218, 72, 254, 74, 38, 146, 230, 38, 152, 188, 212, 98, 137, 78, 137, 234])]
theorem mm2_0 : ob (runZ Tryz.prog T tabM2 100000 60 62 (mkAs T [150] x2_0) (fun _ => none) 0) (fun out => resC T false [.d 23] out) = some r2_0 := by kernel_rfl
noncomputable def tb2 : List (List V × List Rs) := [(x2_0, r2_0)]
theorem mem2 : SymOK Tryz.prog T 62 (pureS T false [150] (memF tb2)).dir := memo_ok (rk := [.d 23]) (runZ_ok (fu := 100000) (d := 60) follows T_ok tabM2_ok) (by kernel_rfl) ⟨mm2_0, trivial⟩
noncomputable def tabM3 : List (Nat × Sym) := (62, (pureS T false [150] (memF tb2)).dir) :: tabM2
theorem tabM3_ok : AllS Tryz.prog T tabM3 := ⟨mem2, tabM2_ok⟩
def x3_0 : List V := [.l [.i 1, .l [.l [.l [bl [0, 0, 0, 0, 0, 0, 0, 0, 0, 0, 0, 0, 0, 0, 0, 0, 0, 0, 0, 0, 0, 0, 0, 0, 0, 0, 0, 0, 0, 0, 0, 0], .i 4294967295], bl [98, 121, 110, 97, 109, 101], .i 0]], .l [.l [.i 0, .l [.i 106]]], .i 0]]
def r3_0 : List Rs := [.d 23 (bl [27, 228, 96, 192, 24, 233, 156, 161, 112, 96, 39, 161, 242, 105, 12, 172, 218, 72, 254, 74, 38, 146, 230, 38, 152, 188, 212, 98, 137, 78, 137, 234])]
theorem mm3_0 : ob (runZ Tryz.prog T tabM3 100000 60 143 (mkAs T [150] x3_0) (fun _ => none) 0) (fun out => resC T false [.d 23] out) = some r3_0 := by kernel_rfl
noncomputable def tb3 : List (List V × List Rs) := [(x3_0, r3_0)]
theorem mem3 : SymOK Tryz.prog T 143 (pureS T false [150] (memF tb3)).dir := memo_ok (rk := [.d 23]) (runZ_ok (fu := 100000) (d := 60) follows T_ok tabM3_ok) (by kernel_rfl) ⟨mm3_0, trivial⟩
noncomputable def tabM4 : List (Nat × Sym) := (143, (pureS T false [150] (memF tb3)).dir) :: tabM3
theorem tabM4_ok : AllS Tryz.prog T tabM4 := ⟨mem3, tabM3_ok⟩
def x4_0 : List V := [.l [.i 1, bl [0, 0, 0, 0, 0, 0, 0, 0, 0, 0, 0, 0, 0, 0, 0, 0, 0, 0, 0, 0, 0, 0, 0, 0, 0, 0, 0, 0, 0, 0, 0, 0], bl [27, 228, 96, 192, 24, 233, 156, 161, 112, 96, 39, 161, 242, 105, 12, 172, 218, 72, 254, 74, 38, 146, 230, 38, 152, 188, 212, 98, 137, 78, 137, 234], .i 1000000000, .i 545259519, .i 0]]
def r4_0 : List Rs := [.d 23 (bl [5, 255, 175, 132, 180, 223, 70, 118, 53, 239, 142, 198, 68, 68, 87, 192, 226, 0, 188, 189, 184, 250, 48, 242, 15, 177, 159, 234, 32, 101, 91, 46])]
theorem mm4_0 : ob (runZ Tryz.prog T tabM4 100000 60 141 (mkAs T [46] x4_0) (fun _ => none) 0) (fun out => resC T false [.d 23] out) = some r4_0 := by kernel_rfl
noncomputable def tb4 : List (List V × List Rs) := [(x4_0, r4_0)]
theorem mem4 : SymOK Tryz.prog T 141 (pureS T false [46] (memF tb4)).dir := memo_ok (rk := [.d 23]) (runZ_ok (fu := 100000) (d := 60) follows T_ok tabM4_ok) (by kernel_rfl) ⟨mm4_0, trivial⟩
noncomputable def tabM5 : List (Nat × Sym) := (141, (pureS T false [46] (memF tb4)).dir) :: tabM4
theorem tabM5_ok : AllS Tryz.prog T tabM5 := ⟨mem4, tabM4_ok⟩
def x5_0 : List V := [.l [.i 1, bl [0, 0, 0, 0, 0, 0, 0, 0, 0, 0, 0, 0, 0, 0, 0, 0, 0, 0, 0, 0, 0, 0, 0, 0, 0, 0, 0, 0, 0, 0, 0, 0], bl [27, 228, 96, 192, 24, 233, 156, 161, 112, 96, 39, 161, 242, 105, 12, 172, 218, 72, 254, 74, 38, 146, 230, 38, 152, 188, 212, 98, 137, 78, 137, 234], .i 1000000000, .i 545259519, .i 0]]
def r5_0 : List Rs := [.d 23 (bl [5, 255, 175, 132, 180, 223, 70, 118, 53, 239, 142, 198, 68, 68, 87, 192, 226, 0, 188, 189, 184, 250, 48, 242, 15, 177, 159, 234, 32, 101, 91, 46])]
theorem mm5_0 : ob (runZ Tryz.prog T tabM5 100000 60 41 (mkAs T [46] x5_0) (fun _ => none) 0) (fun out => resC T false [.d 23] out) = some r5_0 := by kernel_rfl
noncomputable def tb5 : List (List V × List Rs) := [(x5_0, r5_0)]
theorem mem5 : SymOK Tryz.prog T 41 (pureS T false [46] (memF tb5)).dir := memo_ok (rk := [.d 23]) (runZ_ok (fu := 100000) (d := 60) follows T_ok tabM5_ok) (by kernel_rfl) ⟨mm5_0, trivial⟩
noncomputable def tabM6 : List (Nat × Sym) := (41, (pureS T false [46] (memF tb5)).dir) :: tabM5
theorem tabM6_ok : AllS Tryz.prog T tabM6 := ⟨mem5, tabM5_ok⟩
def x6_0 : List V := []
def r6_0 : List Rs := [.r 58 (bl [0, 0, 0, 0, 0, 0, 0, 0, 0, 0, 0, 0, 0, 0, 65280, 32767, 0, 0, 0, 0, 0, 0, 0, 0, 0, 0, 0, 0, 0, 0, 0] : V).els false]
theorem mm6_0 : ob (runZ Tryz.prog T tabM6 100000 60 110 (mkAs T [] x6_0) (fun _ => none) 0) (fun out => resC T false [.r 58] out) = some r6_0 := by kernel_rfl
noncomputable def tb6 : List (List V × List Rs) := [(x6_0, r6_0)]
theorem mem6 : SymOK Tryz.prog T 110 (pureS T false [] (memF tb6)).dir := memo_ok (rk := [.r 58]) (runZ_ok (fu := 100000) (d := 60) follows T_ok tabM6_ok) (by kernel_rfl) ⟨mm6_0, trivial⟩
noncomputable def tabM7 : List (Nat × Sym) := (110, (pureS T false [] (memF tb6)).dir) :: tabM6
theorem tabM7_ok : AllS Tryz.prog T tabM7 := ⟨mem6, tabM6_ok⟩
def x7_0 : List V := [.i 545259519]
def r7_0 : List Rs := [.r 58 (bl [0, 0, 0, 0, 0, 0, 0, 0, 0, 0, 0, 0, 0, 0, 65280, 32767, 0, 0, 0, 0, 0, 0, 0, 0, 0, 0, 0, 0, 0, 0, 0] : V).els false, .d 3 (.i 0)]
theorem mm7_0 : ob (runZ Tryz.prog T tabM7 100000 60 65 (mkAs T [24] x7_0) (fun _ => none) 0) (fun out => resC T false [.r 58, .d 3] out) = some r7_0 := by kernel_rfl
noncomputable def tb7 : List (List V × List Rs) := [(x7_0, r7_0)]
theorem mem7 : SymOK Tryz.prog T 65 (pureS T false [24] (memF tb7)).dir := memo_ok (rk := [.r 58, .d 3]) (runZ_ok (fu := 100000) (d := 60) follows T_ok tabM7_ok) (by kernel_rfl) ⟨mm7_0, trivial⟩
noncomputable def tabM8 : List (Nat × Sym) := (65, (pureS T false [24] (memF tb7)).dir) :: tabM7
theorem tabM8_ok : AllS Tryz.prog T tabM8 := ⟨mem7, tabM7_ok⟩
def x8_0 : List V := [.i 545259519]
def r8_0 : List Rs := [.r 58 (bl [2, 0, 0, 0, 0, 0, 0, 0, 0, 0, 0, 0, 0, 0, 0, 0, 0] : V).els false]
theorem mm8_0 : ob (runZ Tryz.prog T tabM8 100000 60 42 (mkAs T [24] x8_0) (fun _ => none) 0) (fun out => resC T false [.r 58] out) = some r8_0 := by kernel_rfl
noncomputable def tb8 : List (List V × List Rs) := [(x8_0, r8_0)]
theorem mem8 : SymOK Tryz.prog T 42 (pureS T false [24] (memF tb8)).dir := memo_ok (rk := [.r 58]) (runZ_ok (fu := 100000) (d := 60) follows T_ok tabM8_ok) (by kernel_rfl) ⟨mm8_0, trivial⟩
noncomputable def tabM9 : List (Nat × Sym) := (42, (pureS T false [24] (memF tb8)).dir) :: tabM8
theorem tabM9_ok : AllS Tryz.prog T tabM9 := ⟨mem8, tabM8_ok⟩
def x9_0 : List V := [.i 545259519]
def r9_0 : List Rs := [.d 259 (bl [0, 0, 0, 9223370937343148032]), .d 31 (.i 0)]
theorem mm9_0 : ob (runZ Tryz.prog T tabM9 100000 60 184 (mkAs T [24] x9_0) (fun _ => none) 0) (fun out => resC T false [.d 259, .d 31] out) = some r9_0 := by kernel_rfl
noncomputable def tb9 : List (List V × List Rs) := [(x9_0, r9_0)]
theorem mem9 : SymOK Tryz.prog T 184 (pureS T false [24] (memF tb9)).dir := memo_ok (rk := [.d 259, .d 31]) (runZ_ok (fu := 100000) (d := 60) follows T_ok tabM9_ok) (by kernel_rfl) ⟨mm9_0, trivial⟩
noncomputable def tabM10 : List (Nat × Sym) := (184, (pureS T false [24] (memF tb9)).dir) :: tabM9
theorem tabM10_ok : AllS Tryz.prog T tabM10 := ⟨mem9, tabM9_ok⟩
def x10_0 : List V := [.i 545259519]
def r10_0 : List Rs := [.d 259 (bl [2, 0, 0, 0])]
theorem mm10_0 : ob (runZ Tryz.prog T tabM10 100000 60 142 (mkAs T [24] x10_0) (fun _ => none) 0) (fun out => resC T false [.d 259] out) = some r10_0 := by kernel_rfl
noncomputable def tb10 : List (List V × List Rs) := [(x10_0, r10_0)]
theorem mem10 : SymOK Tryz.prog T 142 (pureS T false [24] (memF tb10)).dir := memo_ok (rk := [.d 259]) (runZ_ok (fu := 100000) (d := 60) follows T_ok tabM10_ok) (by kernel_rfl) ⟨mm10_0, trivial⟩
noncomputable def tabM11 : List (Nat × Sym) := (142, (pureS T false [24] (memF tb10)).dir) :: tabM10
theorem tabM11_ok : AllS Tryz.prog T tabM11 := ⟨mem10, tabM10_ok⟩
def x11_0 : List V := []
def r11_0 : List Rs := [.d 99 (.l [.l [.i 1, bl [0, 0, 0, 0, 0, 0, 0, 0, 0, 0, 0, 0, 0, 0, 0, 0, 0, 0, 0, 0, 0, 0, 0, 0, 0, 0, 0, 0, 0, 0, 0, 0], bl [27, 228, 96, 192, 24, 233, 156, 161, 112, 96, 39, 161, 242, 105, 12, 172, 218, 72, 254, 74, 38, 146, 230, 38, 152, 188, 212, 98, 137, 78, 137, 234], .i 1000000000, .i 545259519, .i 0], .l [.l [.i 1, .l [.l [.l [bl [0, 0, 0, 0, 0, 0, 0, 0, 0, 0, 0, 0, 0, 0, 0, 0, 0, 0, 0, 0, 0, 0, 0, 0, 0, 0, 0, 0, 0, 0, 0, 0], .i 4294967295], bl [98, 121, 110, 97, 109, 101], .i 0]], .l [.l [.i 0, .l [.i 106]]], .i 0]]])]
theorem mm11_0 : ob (runZ Tryz.prog T tabM11 100000 60 40 (mkAs T [] x11_0) (fun _ => none) 0) (fun out => resC T true [.d 99] out) = some r11_0 := by kernel_rfl
noncomputable def tb11 : List (List V × List Rs) := [(x11_0, r11_0)]
theorem mem11 : SymOK Tryz.prog T 40 (pureS T true [] (memF tb11)).dir := memo_ok (rk := [.d 99]) (runZ_ok (fu := 100000) (d := 60) follows T_ok tabM11_ok) (by kernel_rfl) ⟨mm11_0, trivial⟩
noncomputable def tabM12 : List (Nat × Sym) := (40, (pureS T true [] (memF tb11)).dir) :: tabM11
theorem tabM12_ok : AllS Tryz.prog T tabM12 := ⟨mem11, tabM11_ok⟩
def x12_0 : List V := []
def r12_0 : List Rs := [.d 99 (.l [.l [.i 1, bl [0, 0, 0, 0, 0, 0, 0, 0, 0, 0, 0, 0, 0, 0, 0, 0, 0, 0, 0, 0, 0, 0, 0, 0, 0, 0, 0, 0, 0, 0, 0, 0], bl [27, 228, 96, 192, 24, 233, 156, 161, 112, 96, 39, 161, 242, 105, 12, 172, 218, 72, 254, 74, 38, 146, 230, 38, 152, 188, 212, 98, 137, 78, 137, 234], .i 1000000000, .i 545259519, .i 0], .l [.l [.i 1, .l [.l [.l [bl [0, 0, 0, 0, 0, 0, 0, 0, 0, 0, 0, 0, 0, 0, 0, 0, 0, 0, 0, 0, 0, 0, 0, 0, 0, 0, 0, 0, 0, 0, 0, 0], .i 4294967295], bl [98, 121, 110, 97, 109, 101], .i 0]], .l [.l [.i 0, .l [.i 106]]], .i 0]]])]
theorem mm12_0 : ob (runZ Tryz.prog T tabM12 100000 60 92 (mkAs T [] x12_0) (fun _ => none) 0) (fun out => resC T true [.d 99] out) = some r12_0 := by kernel_rfl
noncomputable def tb12 : List (List V × List Rs) := [(x12_0, r12_0)]
theorem mem12 : SymOK Tryz.prog T 92 (pureS T true [] (memF tb12)).dir := memo_ok (rk := [.d 99]) (runZ_ok (fu := 100000) (d := 60) follows T_ok tabM12_ok) (by kernel_rfl) ⟨mm12_0, trivial⟩
noncomputable def tabM13 : List (Nat × Sym) := (92, (pureS T true [] (memF tb12)).dir) :: tabM12
theorem tabM13_ok : AllS Tryz.prog T tabM13 := ⟨mem12, tabM12_ok⟩
def x13_0 : List V := [bl [0, 0, 0, 0, 0, 0, 0, 0, 0, 0, 0, 0, 0, 0, 0, 0, 0, 0, 0, 0, 0, 0, 0, 0, 0, 0, 0, 0, 0, 0, 0, 0, 0, 0, 0, 0, 0, 0, 0, 0, 0, 0, 0, 0, 0, 0, 0, 0, 0, 0, 0, 0, 0, 0, 0, 0, 0, 0, 0, 0, 0, 0, 0, 0, 0, 0, 0, 0, 0, 0, 0, 0, 0, 0, 0, 0, 0, 0, 0, 0, 0, 0, 0, 0, 0, 0, 0, 0, 0, 0, 0, 0, 0, 0, 0, 0, 0, 0, 0, 0, 0, 0, 0, 0, 0, 0, 0, 0, 0, 0, 0, 0, 0, 0, 0, 0, 0, 0, 0, 0, 0, 0, 0, 0, 0, 0, 0, 0]]
def r13_0 : List Rs := [.d 58 (.i 0)]
theorem mm13_0 : ob (runZ Tryz.prog T tabM13 100000 60 136 (mkAs T [247] x13_0) (fun _ => none) 0) (fun out => resC T false [.d 58] out) = some r13_0 := by kernel_rfl
noncomputable def tb13 : List (List V × List Rs) := [(x13_0, r13_0)]
theorem mem13 : SymOK Tryz.prog T 136 (pureS T false [247] (memF tb13)).dir := memo_ok (rk := [.d 58]) (runZ_ok (fu := 100000) (d := 60) follows T_ok tabM13_ok) (by kernel_rfl) ⟨mm13_0, trivial⟩
noncomputable def tabM14 : List (Nat × Sym) := (136, (pureS T false [247] (memF tb13)).dir) :: tabM13
theorem tabM14_ok : AllS Tryz.prog T tabM14 := ⟨mem13, tabM13_ok⟩
noncomputable abbrev tabZ : List (Nat × Sym) := tabM14
theorem tabZ_ok : AllS Tryz.prog T tabZ := tabM14_ok
end Go.Proofs.YtdilkihonfnpcaaGreat.al

namespace Go.Proofs.YtdilkihonfnpcaaGreat.al
open Go.Vm
set_option maxRecDepth 100000
set_option linter.unusedVariables false
theorem alive_run : ob (runZ Tryz.prog T tabZ 100000 60 5 (mkAs T [] []) (fun _ => none) 0) (fun out => resC T true [.d 4] out) = some [.d 4 (.b true)] := by kernel_rfl
noncomputable def aliveC : SymC := pureS T true [] (gF (fun _ => true) (fun _ => [.d 4 (.b true)]))
theorem aliveC_nat : aliveC.nat := pureS_nat (gF_nat _ _)
theorem alive : SymOK Tryz.prog T 5 aliveC.dir :=
  pure_ok (s := ofSym (runZ Tryz.prog T tabZ 100000 60 5)) (ofSym_nat _) (by rw [ofSym_dir]; exact runZ_ok follows T_ok tabZ_ok) (rk := [.d 4]) (gF_nat _ _) rfl (fun xs rs htv hrs => by
    have hl := htv.len
    cases xs with
    | cons _ _ => cases hl
    | nil =>
      obtain ⟨_, rfl⟩ := gF_at hrs
      exact alive_run)
end Go.Proofs.YtdilkihonfnpcaaGreat.al

namespace Go.Proofs.YtdilkihonfnpcaaGreat
open Go.Vm
set_option maxRecDepth 100000
set_option linter.unusedVariables false
set_option linter.constructorNameAsVariable false
theorem run_wf8 (bs : List V) (n : Int) : runFC Tryz.prog T K3 (fun _ _ => none) false FU 51 (List Rs) (mkAs T [29, 58, 3] [.l bs, .i n, .i 8]) (fun _ => none) 0 (fun out => resC T true [.r 5] out) = (lim (0 + bs.length) <| pFix 8 n bs (fun xs => some [.r 5 xs false])) := by kernel_rfl
theorem run_wf8N (n : Int) : runFC Tryz.prog T K3 (fun _ _ => none) false FU 51 (List Rs) (mkAs T [29, 58, 3] [.n, .i n, .i 8]) (fun _ => none) 0 (fun out => resC T true [.r 5] out) = some [.r 5 (leV 8 n) false] := by kernel_rfl
theorem run_wf4 (bs : List V) (n : Int) : runFC Tryz.prog T K3 (fun _ _ => none) false FU 51 (List Rs) (mkAs T [29, 58, 3] [.l bs, .i n, .i 4]) (fun _ => none) 0 (fun out => resC T true [.r 5] out) = (lim (0 + bs.length) <| pFix 4 n bs (fun xs => some [.r 5 xs false])) := by kernel_rfl
theorem run_wf4N (n : Int) : runFC Tryz.prog T K3 (fun _ _ => none) false FU 51 (List Rs) (mkAs T [29, 58, 3] [.n, .i n, .i 4]) (fun _ => none) 0 (fun out => resC T true [.r 5] out) = some [.r 5 (leV 4 n) false] := by kernel_rfl
noncomputable def tab4 : List (Nat × SymC) := (51, pureS T true [29, 58, 3] (gF wFixg (wFixr 5))) :: tab3
theorem tab4_ok : TabOK Tryz.prog T tab4 := by
  refine pure_conG (sh := true) (rk := [.r 5]) (d := 4) (fu := FU) (Lo := (fun _ _ => none)) (ds := [.slice (.int .u8), .int .u64, .int .i64]) follows T_ok tab3_ok (by kernel_rfl) loopsC_none 40 (by kernel_rfl) (fun xs hd hg => ?_)
  obtain ⟨a, b, c, rfl, ha, hb, hc⟩ := hasL3 hd
  obtain ⟨n, rfl, _⟩ := hb
  obtain ⟨s, rfl, _⟩ := hc
  obtain ⟨hs, hg⟩ := wFix_at hg
  rcases hs with rfl | rfl
  ·
    · rcases bytes_v ha with rfl | ⟨ys, rfl⟩
      · rw [wFixr_8]; exact run_wf8N n
      · rw [wFixr_8]
        have hl : ys.length ≤ 268435456 := shb_le hg
        refine (run_wf8 ys n).trans ?_
        rw [lim_in (by omega), pFix_law _ _ _ _ (by show ys.length + 8 ≤ 1073741824; omega)]; rfl
  ·
    · rcases bytes_v ha with rfl | ⟨ys, rfl⟩
      · rw [wFixr_4]; exact run_wf4N n
      · rw [wFixr_4]
        have hl : ys.length ≤ 268435456 := shb_le hg
        refine (run_wf4 ys n).trans ?_
        rw [lim_in (by omega), pFix_law _ _ _ _ (by show ys.length + 4 ≤ 1073741824; omega)]; rfl
noncomputable def K4 : KC := runAC Tryz.prog T tab4 false FU 4
theorem hK4 : K4.nat := runAC_nat tab4_ok 4
theorem hS4 : KOK Tryz.prog T K4.dir := runAC_ok follows T_ok tab4_ok 4
theorem run_wt (bs xs : List V) : runFC Tryz.prog T K4 (fun _ _ => none) false FU 33 (List Rs) (mkAs T [29, 115] [.l bs, .l [.l xs]]) (fun _ => none) 0 (fun out => resC T true [.r 5] out) = (lim (0 + bs.length) <| txt1 bs xs (fun ys => some [.r 5 ys false])) := by kernel_rfl
theorem run_wt0 (bs : List V) : runFC Tryz.prog T K4 (fun _ _ => none) false FU 33 (List Rs) (mkAs T [29, 115] [.l bs, .l [.n]]) (fun _ => none) 0 (fun out => resC T true [.r 5] out) = (lim (0 + bs.length) <| txt1 bs [] (fun ys => some [.r 5 ys false])) := by kernel_rfl
theorem run_wtN (xs : List V) : runFC Tryz.prog T K4 (fun _ _ => none) false FU 33 (List Rs) (mkAs T [29, 115] [.n, .l [.l xs]]) (fun _ => none) 0 (fun out => resC T true [.r 5] out) = (txt1 [] xs (fun ys => some [.r 5 ys false])) := by kernel_rfl
theorem run_wtN0  : runFC Tryz.prog T K4 (fun _ _ => none) false FU 33 (List Rs) (mkAs T [29, 115] [.n, .l [.n]]) (fun _ => none) 0 (fun out => resC T true [.r 5] out) = (txt1 [] [] (fun ys => some [.r 5 ys false])) := by kernel_rfl
noncomputable def tab5 : List (Nat × SymC) := (33, pureS T true [29, 115] (gF wTxtg (wTxtr 5))) :: tab4
theorem tab5_ok : TabOK Tryz.prog T tab5 := by
  refine pure_conG (sh := true) (rk := [.r 5]) (d := 4) (fu := FU) (Lo := (fun _ _ => none)) (ds := [.slice (.int .u8), .slice (.slice (.int .u8))]) follows T_ok tab4_ok (by kernel_rfl) loopsC_none 40 (by kernel_rfl) (fun xs hd hg => ?_)
  obtain ⟨a, b, rfl, ha, hb⟩ := hasL2 hd
  rcases hb with rfl | ⟨l, rfl, hl⟩
  · exact absurd (show false = true from hg) (by decide)
  match l, hl, hg with
  | [x], hl, hg =>
    have hg := (Bool.and_eq_true _ _).mp (show (shb a && shb x) = true from hg)
    rcases bytes_v ha with rfl | ⟨ys, rfl⟩ <;> rcases bytes_v (hl x (List.mem_singleton.2 rfl)) with rfl | ⟨zs, rfl⟩
    · exact (run_wtN0).trans (txt1_law (by simp) (by simp))
    ·
      have hl2 : zs.length ≤ 268435456 := shb_le hg.2
      refine (run_wtN zs).trans ?_
      rw [txt1_law (by simp) (by omega)]; rfl
    ·
      have hl1 : ys.length ≤ 268435456 := shb_le hg.1
      refine (run_wt0 ys ).trans ?_
      rw [lim_in (by omega), txt1_law (by omega) (by simp)]; rfl
    ·
      have hl1 : ys.length ≤ 268435456 := shb_le hg.1
      have hl2 : zs.length ≤ 268435456 := shb_le hg.2
      refine (run_wt ys zs).trans ?_
      rw [lim_in (by omega), txt1_law (by omega) (by omega)]; rfl
noncomputable def K5 : KC := runAC Tryz.prog T tab5 false FU 4
theorem hK5 : K5.nat := runAC_nat tab5_ok 4
theorem hS5 : KOK Tryz.prog T K5.dir := runAC_ok follows T_ok tab5_ok 4
theorem run_wc (bs : List V) (n : Int) : runFC Tryz.prog T K5 (fun _ _ => none) false FU 34 (List Rs) (mkAs T [29, 58] [.l bs, .i n]) (fun _ => none) 0 (fun out => resC T true [.r 5] out) = cntE n bs (fun ys => some [.r 5 ys false]) := by kernel_rfl
theorem run_wcN (n : Int) : runFC Tryz.prog T K5 (fun _ _ => none) false FU 34 (List Rs) (mkAs T [29, 58] [.n, .i n]) (fun _ => none) 0 (fun out => resC T true [.r 5] out) = cntC n [] (fun ys => some [.r 5 ys false]) := by kernel_rfl
noncomputable def tab6 : List (Nat × SymC) := (34, pureS T true [29, 58] (gF wCntg (wCntr 5))) :: tab5
theorem tab6_ok : TabOK Tryz.prog T tab6 := by
  refine pure_conG (sh := true) (rk := [.r 5]) (d := 4) (fu := FU) (Lo := (fun _ _ => none)) (ds := [.slice (.int .u8), .int .u64]) follows T_ok tab5_ok (by kernel_rfl) loopsC_none 40 (by kernel_rfl) (fun xs hd hg => ?_)
  obtain ⟨a, b, rfl, ha, hb⟩ := hasL2 hd
  obtain ⟨n, rfl, _⟩ := hb
  rcases bytes_v ha with rfl | ⟨ys, rfl⟩
  · refine (run_wcN n).trans ?_
    rw [cntC_law (by simp)]; rfl
  · have hl : ys.length ≤ 268435456 := shb_le hg
    refine (run_wc ys n).trans ?_
    rw [cntE_law (by omega)]; rfl
noncomputable def K6 : KC := runAC Tryz.prog T tab6 false FU 4
theorem hK6 : K6.nat := runAC_nat tab6_ok 4
theorem hS6 : KOK Tryz.prog T K6.dir := runAC_ok follows T_ok tab6_ok 4
theorem run_wr (hs : List V) (n : Int) : runFC Tryz.prog T K6 (fun _ _ => none) false FU 32 (List Rs) (mkAs T [26] [.l [.l hs, .i n]]) (fun _ => none) 0 (fun out => resC T true [.r 5] out) = bif shb (.l ((hs.drop 0).take 32)) then some [.r 5 ((hs.drop 0).take 32 ++ leV 4 (WU n)) false] else none := by kernel_rfl
noncomputable def tab7 : List (Nat × SymC) := (32, pureS T true [26] (gF wRefg (wRefr 5))) :: tab6
theorem tab7_ok : TabOK Tryz.prog T tab7 := by
  refine pure_conG (sh := true) (rk := [.r 5]) (d := 4) (fu := FU) (Lo := (fun _ _ => none)) (ds := [.struct [.arr 32 (.int .u8), .int .u32]]) follows T_ok tab6_ok (by kernel_rfl) loopsC_none 40 (by kernel_rfl) (fun xs hd hg => ?_)
  obtain ⟨a, rfl, ha⟩ := hasL1 hd
  obtain ⟨hs, n, rfl, hl, h1, h2⟩ := ref_v ha
  obtain ⟨m, rfl⟩ := Int.eq_ofNat_of_zero_le h1
  refine (run_wr hs _).trans ?_
  rw [show (hs.drop 0).take 32 = hs from List.take_of_length_le (by simp; omega), wu64_lt (by omega), show shb (.l hs) = true from Nat.ble_eq_true_of_le (by show hs.length ≤ 268435456; omega)]; rfl
noncomputable def K7 : KC := runAC Tryz.prog T tab7 false FU 4
theorem hK7 : K7.nat := runAC_nat tab7_ok 4
theorem hS7 : KOK Tryz.prog T K7.dir := runAC_ok follows T_ok tab7_ok 4
theorem run_dc (n : Int) : runFC Tryz.prog T K7 (fun _ _ => none) false FU 37 (List Rs) (mkAs T [58] [.i n]) (fun _ => none) 0 (fun out => resC T true [.r 5] out) = cntD n (fun ys => some [.r 5 ys false]) := by kernel_rfl
noncomputable def tab8 : List (Nat × SymC) := (37, pureS T true [58] (gF dCntg (dCntr 5))) :: tab7
theorem tab8_ok : TabOK Tryz.prog T tab8 := by
  refine pure_conG (sh := true) (rk := [.r 5]) (d := 4) (fu := FU) (Lo := (fun _ _ => none)) (ds := [.int .u64]) follows T_ok tab7_ok (by kernel_rfl) loopsC_none 40 (by kernel_rfl) (fun xs hd hg => ?_)
  obtain ⟨a, rfl, ha⟩ := hasL1 hd
  obtain ⟨n, rfl, h1, h2⟩ := ha
  simp only [lo, hi] at h1 h2
  refine (run_dc n).trans ?_
  rw [cntD_law h1 (by omega)]; rfl
noncomputable def K8 : KC := runAC Tryz.prog T tab8 false FU 4
theorem hK8 : K8.nat := runAC_nat tab8_ok 4
theorem hS8 : KOK Tryz.prog T K8.dir := runAC_ok follows T_ok tab8_ok 4
theorem run_dt (xs : List V) : runFC Tryz.prog T K8 (fun _ _ => none) false FU 36 (List Rs) (mkAs T [29] [.l xs]) (fun _ => none) 0 (fun out => resC T true [.r 5] out) = (ln xs.length <| lim ((cntL (WU (xs.length : Nat))).length + xs.length) <| some [.r 5 (cntL (WU (xs.length : Nat)) ++ xs) false]) := by kernel_rfl
theorem run_dtN  : runFC Tryz.prog T K8 (fun _ _ => none) false FU 36 (List Rs) (mkAs T [29] [.n]) (fun _ => none) 0 (fun out => resC T true [.r 5] out) = some [.r 5 (txtL []) false] := by kernel_rfl
noncomputable def tab9 : List (Nat × SymC) := (36, pureS T true [29] (gF dTxtg (dTxtr 5))) :: tab8
theorem tab9_ok : TabOK Tryz.prog T tab9 := by
  refine pure_conG (sh := true) (rk := [.r 5]) (d := 4) (fu := FU) (Lo := (fun _ _ => none)) (ds := [.slice (.int .u8)]) follows T_ok tab8_ok (by kernel_rfl) loopsC_none 40 (by kernel_rfl) (fun xs hd hg => ?_)
  obtain ⟨a, rfl, ha⟩ := hasL1 hd
  rcases bytes_v ha with rfl | ⟨ys, rfl⟩
  · exact run_dtN
  · have hl : ys.length ≤ 268435456 := shb_le hg
    have hc := cntL_len (ys.length : Nat)
    refine (run_dt ys).trans ?_
    rw [ln_in (by omega), wu64_lt (by omega), lim_in (by omega)]; rfl
noncomputable def K9 : KC := runAC Tryz.prog T tab9 false FU 4
theorem hK9 : K9.nat := runAC_nat tab9_ok 4
theorem hS9 : KOK Tryz.prog T K9.dir := runAC_ok follows T_ok tab9_ok 4
theorem run_df8 (n : Int) : runFC Tryz.prog T K9 (fun _ _ => none) false FU 53 (List Rs) (mkAs T [58, 3] [.i n, .i 8]) (fun _ => none) 0 (fun out => resC T true [.r 5] out) = some [.r 5 (leD 8 n) false] := by kernel_rfl
theorem run_df4 (n : Int) : runFC Tryz.prog T K9 (fun _ _ => none) false FU 53 (List Rs) (mkAs T [58, 3] [.i n, .i 4]) (fun _ => none) 0 (fun out => resC T true [.r 5] out) = some [.r 5 (leD 4 n) false] := by kernel_rfl
noncomputable def tab10 : List (Nat × SymC) := (53, pureS T true [58, 3] (gF dFixg (dFixr 5))) :: tab9
theorem tab10_ok : TabOK Tryz.prog T tab10 := by
  refine pure_conG (sh := true) (rk := [.r 5]) (d := 4) (fu := FU) (Lo := (fun _ _ => none)) (ds := [.int .u64, .int .i64]) follows T_ok tab9_ok (by kernel_rfl) loopsC_none 40 (by kernel_rfl) (fun xs hd hg => ?_)
  obtain ⟨a, b, rfl, ha, hb⟩ := hasL2 hd
  obtain ⟨n, rfl, h1, h2⟩ := ha
  obtain ⟨s, rfl, _⟩ := hb
  simp only [lo, hi] at h1 h2
  rcases dFix_at hg with rfl | rfl
  · rw [dFixr_8]
    refine (run_df8 n).trans ?_
    rw [leD_leV 8 h1 (by omega)]
  · rw [dFixr_4]
    refine (run_df4 n).trans ?_
    rw [leD_leV 4 h1 (by omega)]
noncomputable def K10 : KC := runAC Tryz.prog T tab10 false FU 4
theorem hK10 : K10.nat := runAC_nat tab10_ok 4
theorem hS10 : KOK Tryz.prog T K10.dir := runAC_ok follows T_ok tab10_ok 4
theorem run_dr (hs : List V) (n : Int) : runFC Tryz.prog T K10 (fun _ _ => none) false FU 35 (List Rs) (mkAs T [26] [.l [.l hs, .i n]]) (fun _ => none) 0 (fun out => resC T true [.r 5] out) = (lim (0 + ((hs.drop 0).take 32).length) <| lim (((hs.drop 0).take 32).length + 4) <| some [.r 5 ((hs.drop 0).take 32 ++ leV 4 (WU n)) false]) := by kernel_rfl
noncomputable def tab11 : List (Nat × SymC) := (35, pureS T true [26] (gF wRefg (wRefr 5))) :: tab10
theorem tab11_ok : TabOK Tryz.prog T tab11 := by
  refine pure_conG (sh := true) (rk := [.r 5]) (d := 4) (fu := FU) (Lo := (fun _ _ => none)) (ds := [.struct [.arr 32 (.int .u8), .int .u32]]) follows T_ok tab10_ok (by kernel_rfl) loopsC_none 40 (by kernel_rfl) (fun xs hd hg => ?_)
  obtain ⟨a, rfl, ha⟩ := hasL1 hd
  obtain ⟨hs, n, rfl, hl, h1, h2⟩ := ref_v ha
  obtain ⟨m, rfl⟩ := Int.eq_ofNat_of_zero_le h1
  refine (run_dr hs _).trans ?_
  rw [show (hs.drop 0).take 32 = hs from List.take_of_length_le (by simp; omega), wu64_lt (by omega), lim_in (by omega), lim_in (by omega)]; rfl
noncomputable def K11 : KC := runAC Tryz.prog T tab11 false FU 4
theorem hK11 : K11.nat := runAC_nat tab11_ok 4
theorem hS11 : KOK Tryz.prog T K11.dir := runAC_ok follows T_ok tab11_ok 4
end Go.Proofs.YtdilkihonfnpcaaGreat

namespace Go.Proofs.YtdilkihonfnpcaaGreat
open Go.Vm
set_option maxRecDepth 100000
set_option linter.unusedVariables false
set_option linter.constructorNameAsVariable false
theorem num_n (R : Type) (k : List Rs → Option R) : runFC Tryz.prog T K11 (fun _ _ => none) false FU 46 R (mkAs T [29] [.n]) (fun _ => none) 0 (fun out => ob (resC T false [.d 58] out) k) = k [.d 58 (.i (numE (V.els .n)))] := by kernel_rfl
theorem num_0 (R : Type) (k : List Rs → Option R) : runFC Tryz.prog T K11 (fun _ _ => none) false FU 46 R (mkAs T [29] [.l (List.map nv [])]) (fun _ => none) 0 (fun out => ob (resC T false [.d 58] out) k) = k [.d 58 (.i (numE (List.map nv [])))] := by kernel_rfl
theorem num_1 (R : Type) (k : List Rs → Option R) (a : Nat) : runFC Tryz.prog T K11 (fun _ _ => none) false FU 46 R (mkAs T [29] [.l (List.map nv [a])]) (fun _ => none) 0 (fun out => ob (resC T false [.d 58] out) k) = k [.d 58 (.i (numE (List.map nv [a])))] := by kernel_rfl
theorem num_2 (R : Type) (k : List Rs → Option R) (a b : Nat) : runFC Tryz.prog T K11 (fun _ _ => none) false FU 46 R (mkAs T [29] [.l (List.map nv [a, b])]) (fun _ => none) 0 (fun out => ob (resC T false [.d 58] out) k) = k [.d 58 (.i (numE (List.map nv [a, b])))] := by kernel_rfl
theorem num_3 (R : Type) (k : List Rs → Option R) (a b c : Nat) : runFC Tryz.prog T K11 (fun _ _ => none) false FU 46 R (mkAs T [29] [.l (List.map nv [a, b, c])]) (fun _ => none) 0 (fun out => ob (resC T false [.d 58] out) k) = k [.d 58 (.i (numE (List.map nv [a, b, c])))] := by kernel_rfl
theorem num_4 (R : Type) (k : List Rs → Option R) (a b c d : Nat) : runFC Tryz.prog T K11 (fun _ _ => none) false FU 46 R (mkAs T [29] [.l (List.map nv [a, b, c, d])]) (fun _ => none) 0 (fun out => ob (resC T false [.d 58] out) k) = k [.d 58 (.i (numE (List.map nv [a, b, c, d])))] := by kernel_rfl
theorem num_5 (R : Type) (k : List Rs → Option R) (a b c d e : Nat) : runFC Tryz.prog T K11 (fun _ _ => none) false FU 46 R (mkAs T [29] [.l (List.map nv [a, b, c, d, e])]) (fun _ => none) 0 (fun out => ob (resC T false [.d 58] out) k) = k [.d 58 (.i (numE (List.map nv [a, b, c, d, e])))] := by kernel_rfl
theorem num_6 (R : Type) (k : List Rs → Option R) (a b c d e f : Nat) : runFC Tryz.prog T K11 (fun _ _ => none) false FU 46 R (mkAs T [29] [.l (List.map nv [a, b, c, d, e, f])]) (fun _ => none) 0 (fun out => ob (resC T false [.d 58] out) k) = k [.d 58 (.i (numE (List.map nv [a, b, c, d, e, f])))] := by kernel_rfl
theorem num_7 (R : Type) (k : List Rs → Option R) (a b c d e f g : Nat) : runFC Tryz.prog T K11 (fun _ _ => none) false FU 46 R (mkAs T [29] [.l (List.map nv [a, b, c, d, e, f, g])]) (fun _ => none) 0 (fun out => ob (resC T false [.d 58] out) k) = k [.d 58 (.i (numE (List.map nv [a, b, c, d, e, f, g])))] := by kernel_rfl
theorem num_8 (R : Type) (k : List Rs → Option R) (a b c d e f g h : Nat) : runFC Tryz.prog T K11 (fun _ _ => none) false FU 46 R (mkAs T [29] [.l (List.map nv [a, b, c, d, e, f, g, h])]) (fun _ => none) 0 (fun out => ob (resC T false [.d 58] out) k) = k [.d 58 (.i (numE (List.map nv [a, b, c, d, e, f, g, h])))] := by kernel_rfl
noncomputable def tab12 : List (Nat × SymC) := (46, pureS T false [29] (numF 58)) :: tab11
theorem tab12_ok : TabOK Tryz.prog T tab12 := by
  refine pure_con (sh := false) (rk := [.d 58]) (d := 4) (fu := FU) (Lo := (fun _ _ => none)) follows T_ok tab11_ok (numF_nat 58) (by kernel_rfl) loopsC_none (fun xs rs htv hrs => ?_)
  match xs, htv, htv.len with
  | [x], htv, _ =>
    obtain ⟨e, cs, hx⟩ := htv.head
    rcases tv_bytes (T := T) (t := 29) (el := 5) (by kernel_rfl) (by kernel_rfl) hx with rfl | ⟨ns, rfl, hb⟩
    · have hrs : some [Rs.d 58 (.i (numE (V.els .n)))] = some rs := hrs
      rw [← hrs]
      have h := num_n (List Rs) some
      simp only [ob_id] at h
      exact h
    · obtain ⟨hl, hrs⟩ := numF_at hrs
      rw [hrs]
      match ns, hl with
      | [], _ =>
        have h := num_0 (List Rs) some
        simp only [ob_id] at h
        exact h
      | [a], _ =>
        have h := num_1 (List Rs) some a
        simp only [ob_id] at h
        exact h
      | [a, b], _ =>
        have h := num_2 (List Rs) some a b
        simp only [ob_id] at h
        exact h
      | [a, b, c], _ =>
        have h := num_3 (List Rs) some a b c
        simp only [ob_id] at h
        exact h
      | [a, b, c, d], _ =>
        have h := num_4 (List Rs) some a b c d
        simp only [ob_id] at h
        exact h
      | [a, b, c, d, e], _ =>
        have h := num_5 (List Rs) some a b c d e
        simp only [ob_id] at h
        exact h
      | [a, b, c, d, e, f], _ =>
        have h := num_6 (List Rs) some a b c d e f
        simp only [ob_id] at h
        exact h
      | [a, b, c, d, e, f, g], _ =>
        have h := num_7 (List Rs) some a b c d e f g
        simp only [ob_id] at h
        exact h
      | [a, b, c, d, e, f, g, h], _ =>
        have h := num_8 (List Rs) some a b c d e f g h
        simp only [ob_id] at h
        exact h
      | _ :: _ :: _ :: _ :: _ :: _ :: _ :: _ :: _ :: _, hl => exact absurd hl (by simp)
noncomputable def K12 : KC := runAC Tryz.prog T tab12 false FU 4
theorem hK12 : K12.nat := runAC_nat tab12_ok 4
theorem hS12 : KOK Tryz.prog T K12.dir := runAC_ok follows T_ok tab12_ok 4
theorem run_raw (R : Type) (xs : List V) (err n : Int) (k : List Rs → Option R) : runFC Tryz.prog T K12 (fun _ _ => none) false FU 19 R (.p 0 109 [] :: mkAs T [3] [.i n]) (box0 109 (.l [.l xs, .i err])) 1 (fun out => ob (resM T 109 (.l [.l xs, .i err]) [.d 29] out) k) = rawG 109 29 xs err n k := by kernel_rfl
theorem run_rawN (R : Type) (err n : Int) (k : List Rs → Option R) : runFC Tryz.prog T K12 (fun _ _ => none) false FU 19 R (.p 0 109 [] :: mkAs T [3] [.i n]) (box0 109 (.l [.n, .i err])) 1 (fun out => ob (resM T 109 (.l [.n, .i err]) [.d 29] out) k) = rawN 109 29 err n k := by kernel_rfl
noncomputable def tab13 : List (Nat × SymC) := (19, pureM T 109 [3] (rawF 109 29)) :: tab12
theorem tab13_ok : TabOK Tryz.prog T tab13 := by
  refine pureM_con (rk := [.d 29]) (d := 4) (fu := FU) (Lo := (fun _ _ => none)) follows T_ok tab12_ok (rawF_nat 109 29) (by kernel_rfl) (by kernel_rfl) loopsC_none (fun x xs rs htv hrs => ?_)
  match xs, htv, htv.len with
  | [n], htv, _ =>
    obtain ⟨e, cs, hx⟩ := htv.head
    obtain ⟨e2, cs2, hn⟩ := htv.tail.head
    obtain ⟨n, rfl, _⟩ := tv_int (T := T) (t := 3) (k := .i64) (by kernel_rfl) hn
    obtain ⟨y, err, rfl, _, rfl | ⟨ys, rfl⟩⟩ := tv_two (T := T) (t := 109) (s := 29) (el := 5) (er := 31) (k := .i64) (by kernel_rfl) (by kernel_rfl) (by kernel_rfl) hx
    · have h := (run_rawN (List Rs) err n some).trans (raw_lawN 109 29 hrs)
      simp only [ob_id] at h
      exact h
    · have h := (run_raw (List Rs) ys err n some).trans (raw_law 109 29 hrs)
      simp only [ob_id] at h
      exact h
noncomputable def K13 : KC := runAC Tryz.prog T tab13 false FU 4
theorem hK13 : K13.nat := runAC_nat tab13_ok 4
theorem hS13 : KOK Tryz.prog T K13.dir := runAC_ok follows T_ok tab13_ok 4
theorem run_cnt (R : Type) (n : Int) (k : List Rs → Option R) : runFC Tryz.prog T K13 (fun _ _ => none) false FU 52 R (mkAs T [29, 58] [.n, .i n]) (fun _ => none) 0 (fun out => ob (resC T true [.d 29] out) k) = cntG 29 n k := by kernel_rfl
noncomputable def tab14 : List (Nat × SymC) := (52, pureS T true [29, 58] (cntF 29)) :: tab13
theorem tab14_ok : TabOK Tryz.prog T tab14 := by
  refine pure_con (sh := true) (rk := [.d 29]) (d := 4) (fu := FU) (Lo := (fun _ _ => none)) follows T_ok tab13_ok (cntF_nat 29) (by kernel_rfl) loopsC_none (fun xs rs htv hrs => ?_)
  match xs, htv, htv.len with
  | [x, n], htv, _ =>
    obtain ⟨e2, cs2, hn⟩ := htv.tail.head
    obtain ⟨n, rfl, _⟩ := tv_int (T := T) (t := 58) (k := .u64) (by kernel_rfl) hn
    cases x with
    | n =>
      have h := (run_cnt (List Rs) n some).trans (cnt_at hrs)
      simp only [ob_id] at h
      exact h
    | _ => cases hrs
noncomputable def K14 : KC := runAC Tryz.prog T tab14 false FU 4
theorem hK14 : K14.nat := runAC_nat tab14_ok 4
theorem hS14 : KOK Tryz.prog T K14.dir := runAC_ok follows T_ok tab14_ok 4
theorem run_pk (R : Type) (xs : List V) (err n : Int) (k : List Rs → Option R) : runFC Tryz.prog T K14 (fun _ _ => none) false FU 48 R (.p 0 109 [] :: mkAs T [58] [.i n]) (box0 109 (.l [.l xs, .i err])) 1 (fun out => ob (resM T 109 (.l [.l xs, .i err]) [.d 58, .d 3, .d 31] out) k) = pkG (.l [.l xs, .i err]) xs n (fun p => k (pkR 109 58 31 3 (.l [.l xs, .i err]) p)) := by kernel_rfl
theorem run_pkN (R : Type)  (err n : Int) (k : List Rs → Option R) : runFC Tryz.prog T K14 (fun _ _ => none) false FU 48 R (.p 0 109 [] :: mkAs T [58] [.i n]) (box0 109 (.l [.n, .i err])) 1 (fun out => ob (resM T 109 (.l [.n, .i err]) [.d 58, .d 3, .d 31] out) k) = k (pkR 109 58 31 3 (.l [.n, .i err]) (0, 0, 61)) := by kernel_rfl
noncomputable def tab15 : List (Nat × SymC) := (48, pureM T 109 [58] (pkF 109 58 31 3)) :: tab14
theorem tab15_ok : TabOK Tryz.prog T tab15 := by
  refine pureM_con (rk := [.d 58, .d 3, .d 31]) (d := 4) (fu := FU) (Lo := (fun _ _ => none)) follows T_ok tab14_ok (pkF_nat 109 58 31 3) (by kernel_rfl) (by kernel_rfl) loopsC_none (fun x xs rs htv hrs => ?_)
  match xs, htv, htv.len with
  | [n], htv, _ =>
    obtain ⟨e, cs, hx⟩ := htv.head
    obtain ⟨e2, cs2, hn⟩ := htv.tail.head
    obtain ⟨n, rfl, _⟩ := tv_int (T := T) (t := 58) (k := .u64) (by kernel_rfl) hn
    obtain ⟨y, err, rfl, _, rfl | ⟨ys, rfl⟩⟩ := tv_two (T := T) (t := 109) (s := 29) (el := 5) (er := 31) (k := .i64) (by kernel_rfl) (by kernel_rfl) (by kernel_rfl) hx
    · have h := (run_pkN (List Rs) err n some).trans (pk_atN hrs)
      simp only [ob_id] at h
      exact h
    · have h := (run_pk (List Rs) ys err n some).trans (pk_at hrs)
      simp only [ob_id] at h
      exact h
noncomputable def K15 : KC := runAC Tryz.prog T tab15 false FU 4
theorem hK15 : K15.nat := runAC_nat tab15_ok 4
theorem hS15 : KOK Tryz.prog T K15.dir := runAC_ok follows T_ok tab15_ok 4
theorem run_ct (R : Type) (xs : List V) (err n : Int) (k : List Rs → Option R) : runFC Tryz.prog T K15 (fun _ _ => none) false FU 23 R (.p 0 109 [] :: mkAs T [58] [.i n]) (box0 109 (.l [.l xs, .i err])) 1 (fun out => ob (resM T 109 (.l [.l xs, .i err]) [.d 58] out) k) = ctG 109 58 xs err n k := by kernel_rfl
theorem run_ctN (R : Type)  (err n : Int) (k : List Rs → Option R) : runFC Tryz.prog T K15 (fun _ _ => none) false FU 23 R (.p 0 109 [] :: mkAs T [58] [.i n]) (box0 109 (.l [.n, .i err])) 1 (fun out => ob (resM T 109 (.l [.n, .i err]) [.d 58] out) k) = ctN 109 58 err k := by kernel_rfl
noncomputable def tab16 : List (Nat × SymC) := (23, pureM T 109 [58] (ctF 109 58)) :: tab15
theorem tab16_ok : TabOK Tryz.prog T tab16 := by
  refine pureM_con (rk := [.d 58]) (d := 4) (fu := FU) (Lo := (fun _ _ => none)) follows T_ok tab15_ok (ctF_nat 109 58) (by kernel_rfl) (by kernel_rfl) loopsC_none (fun x xs rs htv hrs => ?_)
  match xs, htv, htv.len with
  | [n], htv, _ =>
    obtain ⟨e, cs, hx⟩ := htv.head
    obtain ⟨e2, cs2, hn⟩ := htv.tail.head
    obtain ⟨n, rfl, _⟩ := tv_int (T := T) (t := 58) (k := .u64) (by kernel_rfl) hn
    obtain ⟨y, err, rfl, _, rfl | ⟨ys, rfl⟩⟩ := tv_two (T := T) (t := 109) (s := 29) (el := 5) (er := 31) (k := .i64) (by kernel_rfl) (by kernel_rfl) (by kernel_rfl) hx
    · have h := (run_ctN (List Rs) err n some).trans (ct_lawN 109 58 hrs)
      simp only [ob_id] at h
      exact h
    · have h := (run_ct (List Rs) ys err n some).trans (ct_law 109 58 hrs)
      simp only [ob_id] at h
      exact h
noncomputable def K16 : KC := runAC Tryz.prog T tab16 false FU 4
theorem hK16 : K16.nat := runAC_nat tab16_ok 4
theorem hS16 : KOK Tryz.prog T K16.dir := runAC_ok follows T_ok tab16_ok 4
theorem run_tx (R : Type) (xs : List V) (err n : Int) (k : List Rs → Option R) : runFC Tryz.prog T K16 (fun _ _ => none) false FU 22 R (.p 0 109 [] :: mkAs T [3] [.i n]) (box0 109 (.l [.l xs, .i err])) 1 (fun out => ob (resM T 109 (.l [.l xs, .i err]) [.d 29] out) k) = txG 109 29 xs err n k := by kernel_rfl
theorem run_txN (R : Type)  (err n : Int) (k : List Rs → Option R) : runFC Tryz.prog T K16 (fun _ _ => none) false FU 22 R (.p 0 109 [] :: mkAs T [3] [.i n]) (box0 109 (.l [.n, .i err])) 1 (fun out => ob (resM T 109 (.l [.n, .i err]) [.d 29] out) k) = txN 109 29 err k := by kernel_rfl
noncomputable def tab17 : List (Nat × SymC) := (22, pureM T 109 [3] (txF 109 29)) :: tab16
theorem tab17_ok : TabOK Tryz.prog T tab17 := by
  refine pureM_con (rk := [.d 29]) (d := 4) (fu := FU) (Lo := (fun _ _ => none)) follows T_ok tab16_ok (txF_nat 109 29) (by kernel_rfl) (by kernel_rfl) loopsC_none (fun x xs rs htv hrs => ?_)
  match xs, htv, htv.len with
  | [n], htv, _ =>
    obtain ⟨e, cs, hx⟩ := htv.head
    obtain ⟨e2, cs2, hn⟩ := htv.tail.head
    obtain ⟨n, rfl, _⟩ := tv_int (T := T) (t := 3) (k := .i64) (by kernel_rfl) hn
    obtain ⟨y, err, rfl, _, rfl | ⟨ys, rfl⟩⟩ := tv_two (T := T) (t := 109) (s := 29) (el := 5) (er := 31) (k := .i64) (by kernel_rfl) (by kernel_rfl) (by kernel_rfl) hx
    · have h := (run_txN (List Rs) err n some).trans (tx_lawN 109 29 hrs)
      simp only [ob_id] at h
      exact h
    · have h := (run_tx (List Rs) ys err n some).trans (tx_law 109 29 hrs)
      simp only [ob_id] at h
      exact h
noncomputable def K17 : KC := runAC Tryz.prog T tab17 false FU 4
theorem hK17 : K17.nat := runAC_nat tab17_ok 4
theorem hS17 : KOK Tryz.prog T K17.dir := runAC_ok follows T_ok tab17_ok 4
theorem run_fx (R : Type) (x : V) (n : Int) (k : List Rs → Option R) : runFC Tryz.prog T K17 (fun _ _ => none) false FU 18 R (.p 0 109 [] :: mkAs T [3] [.i n]) (box0 109 x) 1 (fun out => ob (resM T 109 x [.d 58] out) k) = fxG 109 58 x n k := by kernel_rfl
noncomputable def tab18 : List (Nat × SymC) := (18, pureM T 109 [3] (fxF 109 58)) :: tab17
theorem tab18_ok : TabOK Tryz.prog T tab18 := by
  refine pureM_con (rk := [.d 58]) (d := 4) (fu := FU) (Lo := (fun _ _ => none)) follows T_ok tab17_ok (fxF_nat 109 58) (by kernel_rfl) (by kernel_rfl) loopsC_none (fun x xs rs htv hrs => ?_)
  match xs, htv, htv.len with
  | [n], htv, _ =>
    obtain ⟨e2, cs2, hn⟩ := htv.tail.head
    obtain ⟨n, rfl, _⟩ := tv_int (T := T) (t := 3) (k := .i64) (by kernel_rfl) hn
    have h := (run_fx (List Rs) x n some).trans (fx_law 109 58 hrs)
    simp only [ob_id] at h
    exact h
noncomputable def K18 : KC := runAC Tryz.prog T tab18 false FU 4
theorem hK18 : K18.nat := runAC_nat tab18_ok 4
theorem hS18 : KOK Tryz.prog T K18.dir := runAC_ok follows T_ok tab18_ok 4
end Go.Proofs.YtdilkihonfnpcaaGreat

namespace Go.Proofs.YtdilkihonfnpcaaGreat
open Go.Vm
set_option maxRecDepth 100000
set_option linter.unusedVariables false
set_option linter.constructorNameAsVariable false
theorem run_rr (R : Type) (x : V) (k : List Rs → Option R) : runFC Tryz.prog T K18 (fun _ _ => none) false FU 20 R (.p 0 109 [] :: mkAs T [] []) (box0 109 x) 1 (fun out => ob (resM T 109 x [.d 26] out) k) = rrG 109 26 x k := by kernel_rfl
noncomputable def tab19 : List (Nat × SymC) := (20, pureM T 109 [] (rrF 109 26)) :: tab18
theorem tab19_ok : TabOK Tryz.prog T tab19 := by
  refine pureM_con (rk := [.d 26]) (d := 4) (fu := FU) (Lo := (fun _ _ => none)) follows T_ok tab18_ok (rrF_nat 109 26) (by kernel_rfl) (by kernel_rfl) loopsC_none (fun x xs rs htv hrs => ?_)
  match xs, htv, htv.len with
  | [], htv, _ =>
    have h := (run_rr (List Rs) x some).trans (rr_law 109 26 hrs)
    simp only [ob_id] at h
    exact h
noncomputable def K19 : KC := runAC Tryz.prog T tab19 false FU 4
theorem hK19 : K19.nat := runAC_nat tab19_ok 4
theorem hS19 : KOK Tryz.prog T K19.dir := runAC_ok follows T_ok tab19_ok 4
end Go.Proofs.YtdilkihonfnpcaaGreat

namespace Go.Proofs.YtdilkihonfnpcaaGreat
open Go.Vm
set_option maxRecDepth 100000
set_option linter.unusedVariables false
set_option linter.constructorNameAsVariable false
theorem run_rt (k n m : Int) (hs rh nm : List V) : runFC Tryz.prog T K19 (fun _ _ => none) false FU 8 (List Rs) (mkAs T [28] [.l [.i k, .l hs, .l [.l rh, .i n], .s nm, .i m]]) (fun _ => none) 0 (fun out => resC T true [.d 4] out) = rtG 4 k n m hs rh nm := by kernel_rfl
noncomputable def tab20 : List (Nat × SymC) := (8, pureS T true [28] (ynF 4 (on1 smN) (on1 rqR))) :: tab19
theorem tab20_ok : TabOK Tryz.prog T tab20 := by
  refine pure_con (sh := true) (rk := [.d 4]) (d := 4) (fu := FU) (Lo := (fun _ _ => none)) follows T_ok tab19_ok (ynF_nat 4 (on1 smN) (on1 rqR)) (by kernel_rfl) loopsC_none (fun xs rs htv hrs => ?_)
  obtain ⟨a, rfl, ha⟩ := hasL1 (htv.has 40 (ds := [DReq]) (by kernel_rfl))
  obtain ⟨hg, rfl⟩ := ynF_at hrs
  obtain ⟨k, hs, rh, n, nm, m, rfl, _⟩ := req_v ha
  exact (run_rt k n m hs rh nm).trans (rtG_law hg)
noncomputable def K20 : KC := runAC Tryz.prog T tab20 false FU 4
theorem hK20 : K20.nat := runAC_nat tab20_ok 4
theorem hS20 : KOK Tryz.prog T K20.dir := runAC_ok follows T_ok tab20_ok 4
theorem run_rb1 (n m : Int) (hs rh nm : List V) : runFC Tryz.prog T K20 (fun _ _ => none) false FU 10 (List Rs) (mkAs T [28] [.l [.i 1, .l hs, .l [.l rh, .i n], .s nm, .i m]]) (fun _ => none) 0 (fun out => resC T true [.r 5] out) = some [.r 5 ([.i 1]) false] := by kernel_rfl
theorem run_rb2 (n m : Int) (hs rh nm : List V) : runFC Tryz.prog T K20 (fun _ _ => none) false FU 10 (List Rs) (mkAs T [28] [.l [.i 2, .l hs, .l [.l rh, .i n], .s nm, .i m]]) (fun _ => none) 0 (fun out => resC T true [.r 5] out) = (lim (1 + ((hs.drop 0).take 32).length) <| some [.r 5 (.i 2 :: (hs.drop 0).take 32) false]) := by kernel_rfl
theorem run_rb3 (n m : Int) (hs rh nm : List V) : runFC Tryz.prog T K20 (fun _ _ => none) false FU 10 (List Rs) (mkAs T [28] [.l [.i 3, .l hs, .l [.l rh, .i n], .s nm, .i m]]) (fun _ => none) 0 (fun out => resC T true [.r 5] out) = (lim (1 + (refB (.l [.l rh, .i n])).length) <| some [.r 5 (.i 3 :: refB (.l [.l rh, .i n])) false]) := by kernel_rfl
theorem run_rb4 (n m : Int) (hs rh nm : List V) : runFC Tryz.prog T K20 (fun _ _ => none) false FU 10 (List Rs) (mkAs T [28] [.l [.i 4, .l hs, .l [.l rh, .i n], .s nm, .i m]]) (fun _ => none) 0 (fun out => resC T true [.r 5] out) = (bif wTxtg [.l [.i 4], .l [.l nm]] then some [.r 5 (.i 4 :: txtL nm) false] else none) := by kernel_rfl
theorem run_rb5 (n m : Int) (hs rh nm : List V) : runFC Tryz.prog T K20 (fun _ _ => none) false FU 10 (List Rs) (mkAs T [28] [.l [.i 5, .l hs, .l [.l rh, .i n], .s nm, .i m]]) (fun _ => none) 0 (fun out => resC T true [.r 5] out) = (bif wTxtg [.l [.i 5], .l [.l nm]] then some [.r 5 (.i 5 :: txtL nm) false] else none) := by kernel_rfl
theorem run_rb6 (n m : Int) (hs rh nm : List V) : runFC Tryz.prog T K20 (fun _ _ => none) false FU 10 (List Rs) (mkAs T [28] [.l [.i 6, .l hs, .l [.l rh, .i n], .s nm, .i m]]) (fun _ => none) 0 (fun out => resC T true [.r 5] out) = (bif wTxtg [.l [.i 6], .l [.l nm]] then bif shb (.l (.i 6 :: txtL nm)) then some [.r 5 (.i 6 :: (txtL nm ++ cntL (WU m))) false] else none else none) := by kernel_rfl
theorem run_rb7 (n m : Int) (hs rh nm : List V) : runFC Tryz.prog T K20 (fun _ _ => none) false FU 10 (List Rs) (mkAs T [28] [.l [.i 7, .l hs, .l [.l rh, .i n], .s nm, .i m]]) (fun _ => none) 0 (fun out => resC T true [.r 5] out) = (bif wTxtg [.l [.i 7], .l [.l nm]] then some [.r 5 (.i 7 :: txtL nm) false] else none) := by kernel_rfl
noncomputable def tab21 : List (Nat × SymC) := (10, pureS T true [28] (gF (on1 rqR) (fun xs => match xs with | [x] => [.r 5 (rqB x) false] | _ => []))) :: tab20
theorem tab21_ok : TabOK Tryz.prog T tab21 := by
  refine pure_conG (sh := true) (rk := [.r 5]) (d := 4) (fu := FU) (Lo := (fun _ _ => none)) (ds := [DReq]) follows T_ok tab20_ok (by kernel_rfl) loopsC_none 40 (by kernel_rfl) (fun xs hd hg => ?_)
  obtain ⟨a, rfl, ha⟩ := hasL1 hd
  obtain ⟨p, hp⟩ := rq_of ha hg
  have hs2 : ∀ v : List Nat, v.length ≤ 64 → shb (.l (v.map nv)) = true := fun v hv => Nat.ble_eq_true_of_le (by show (v.map nv).length ≤ 268435456; rw [List.length_map]; omega)
  cases hp with
  | tip => exact run_rb1 _ _ _ _ _
  | blk hs h1 h2 =>
    have e : ((hs.map nv).drop 0).take 32 = hs.map nv := List.take_of_length_le (by simp; omega)
    refine (run_rb2 _ _ _ _ _).trans ?_
    rw [e, lim_in (by simp; omega)]; rfl
  | coin hs c h1 h2 h3 =>
    refine (run_rb3 _ _ _ _ _).trans ?_
    rw [lim_in (by rw [refB_len (x := .l [.l (hs.map nv), .i (c : Int)]) ⟨_, rfl, ⟨_, rfl, by simpa using h2, fun y hy => (by obtain ⟨q, hq, rfl⟩ := List.mem_map.1 hy; exact ⟨_, rfl, by simp [inR, lo, hi]; have := h1 q hq; omega⟩)⟩, ⟨_, rfl, by simp [inR, lo, hi]; omega⟩, trivial⟩]; omega)]; rfl
  | name k v hk h1 h2 =>
    have hw : ∀ z : V, wTxtg [.l [z], .l [.l (v.map nv)]] = true := fun z => (Bool.and_eq_true _ _).mpr ⟨rfl, hs2 v h2⟩
    rcases hk with rfl | rfl | rfl
    · refine (run_rb4 _ _ _ _ _).trans ?_; rw [hw]; rfl
    · refine (run_rb5 _ _ _ _ _).trans ?_; rw [hw]; rfl
    · refine (run_rb7 _ _ _ _ _).trans ?_; rw [hw]; rfl
  | scan v m h1 h2 h3 =>
    have hw : ∀ z : V, wTxtg [.l [z], .l [.l (v.map nv)]] = true := fun z => (Bool.and_eq_true _ _).mpr ⟨rfl, hs2 v h2⟩
    have hs3 : shb (.l (.i 6 :: txtL (v.map nv))) = true := Nat.ble_eq_true_of_le (by
      show (V.i 6 :: txtL (v.map nv)).length ≤ 268435456
      rw [txtL_nv, List.length_cons, List.length_map, List.length_append, cntB_len]
      split <;> (try split) <;> (try split) <;> omega)
    refine (run_rb6 _ _ _ _ _).trans ?_
    rw [hw, hs3, wu64_lt (by omega)]; rfl
noncomputable def K21 : KC := runAC Tryz.prog T tab21 false FU 4
theorem hK21 : K21.nat := runAC_nat tab21_ok 4
theorem hS21 : KOK Tryz.prog T K21.dir := runAC_ok follows T_ok tab21_ok 4
end Go.Proofs.YtdilkihonfnpcaaGreat

namespace Go.Proofs.YtdilkihonfnpcaaGreat
open Go.Vm
set_option maxRecDepth 100000
set_option linter.unusedVariables false
set_option linter.constructorNameAsVariable false
theorem run_qp (bs : List V) : runFC Tryz.prog T K21 (fun _ _ => none) false FU 6 (List Rs) (mkAs T [29] [.l bs]) (fun _ => none) 0 (fun out => resC T true [.d 28, .d 31] out) = qpG 28 31 bs := by kernel_rfl
theorem run_qpN  : runFC Tryz.prog T K21 (fun _ _ => none) false FU 6 (List Rs) (mkAs T [29] [.n]) (fun _ => none) 0 (fun out => resC T true [.d 28, .d 31] out) = some [.d 28 zReq, .d 31 (.i 61)] := by kernel_rfl
noncomputable def tab22 : List (Nat × SymC) := (6, pureS T true [29] (gF (on1 shb) (fun xs => match xs with | [x] => [.d 28 (pqV x), .d 31 (.i (pqE x))] | _ => []))) :: tab21
theorem tab22_ok : TabOK Tryz.prog T tab22 := by
  refine pure_conG (sh := true) (rk := [.d 28, .d 31]) (d := 4) (fu := FU) (Lo := (fun _ _ => none)) (ds := [.slice (.int .u8)]) follows T_ok tab21_ok (by kernel_rfl) loopsC_none 40 (by kernel_rfl) (fun xs hd hg => ?_)
  obtain ⟨a, rfl, ha⟩ := hasL1 hd
  rcases bytes_v ha with rfl | ⟨ys, rfl⟩
  · exact run_qpN
  · exact (run_qp ys).trans (qpG_law (shb_le hg))
noncomputable def K22 : KC := runAC Tryz.prog T tab22 false FU 4
theorem hK22 : K22.nat := runAC_nat tab22_ok 4
theorem hS22 : KOK Tryz.prog T K22.dir := runAC_ok follows T_ok tab22_ok 4
end Go.Proofs.YtdilkihonfnpcaaGreat

namespace Go.Proofs.YtdilkihonfnpcaaGreat
open Go.Vm
set_option maxRecDepth 100000
set_option linter.unusedVariables false
set_option linter.constructorNameAsVariable false
theorem dnum_n (R : Type) (k : List Rs → Option R) : runFC Tryz.prog T K22 (fun _ _ => none) false FU 49 R (mkAs T [29] [.n]) (fun _ => none) 0 (fun out => ob (resC T false [.d 58] out) k) = k [.d 58 (.i (dnum (V.els .n) 0 1))] := by kernel_rfl
theorem dnum_0 (R : Type) (k : List Rs → Option R) : runFC Tryz.prog T K22 (fun _ _ => none) false FU 49 R (mkAs T [29] [.l (List.map nv [])]) (fun _ => none) 0 (fun out => ob (resC T false [.d 58] out) k) = k [.d 58 (.i (dnum (List.map nv []) 0 1))] := by kernel_rfl
theorem dnum_1 (R : Type) (k : List Rs → Option R) (a : Nat) : runFC Tryz.prog T K22 (fun _ _ => none) false FU 49 R (mkAs T [29] [.l (List.map nv [a])]) (fun _ => none) 0 (fun out => ob (resC T false [.d 58] out) k) = k [.d 58 (.i (dnum (List.map nv [a]) 0 1))] := by kernel_rfl
theorem dnum_2 (R : Type) (k : List Rs → Option R) (a b : Nat) : runFC Tryz.prog T K22 (fun _ _ => none) false FU 49 R (mkAs T [29] [.l (List.map nv [a, b])]) (fun _ => none) 0 (fun out => ob (resC T false [.d 58] out) k) = k [.d 58 (.i (dnum (List.map nv [a, b]) 0 1))] := by kernel_rfl
theorem dnum_3 (R : Type) (k : List Rs → Option R) (a b c : Nat) : runFC Tryz.prog T K22 (fun _ _ => none) false FU 49 R (mkAs T [29] [.l (List.map nv [a, b, c])]) (fun _ => none) 0 (fun out => ob (resC T false [.d 58] out) k) = k [.d 58 (.i (dnum (List.map nv [a, b, c]) 0 1))] := by kernel_rfl
theorem dnum_4 (R : Type) (k : List Rs → Option R) (a b c d : Nat) : runFC Tryz.prog T K22 (fun _ _ => none) false FU 49 R (mkAs T [29] [.l (List.map nv [a, b, c, d])]) (fun _ => none) 0 (fun out => ob (resC T false [.d 58] out) k) = k [.d 58 (.i (dnum (List.map nv [a, b, c, d]) 0 1))] := by kernel_rfl
theorem dnum_5 (R : Type) (k : List Rs → Option R) (a b c d e : Nat) : runFC Tryz.prog T K22 (fun _ _ => none) false FU 49 R (mkAs T [29] [.l (List.map nv [a, b, c, d, e])]) (fun _ => none) 0 (fun out => ob (resC T false [.d 58] out) k) = k [.d 58 (.i (dnum (List.map nv [a, b, c, d, e]) 0 1))] := by kernel_rfl
theorem dnum_6 (R : Type) (k : List Rs → Option R) (a b c d e f : Nat) : runFC Tryz.prog T K22 (fun _ _ => none) false FU 49 R (mkAs T [29] [.l (List.map nv [a, b, c, d, e, f])]) (fun _ => none) 0 (fun out => ob (resC T false [.d 58] out) k) = k [.d 58 (.i (dnum (List.map nv [a, b, c, d, e, f]) 0 1))] := by kernel_rfl
theorem dnum_7 (R : Type) (k : List Rs → Option R) (a b c d e f g : Nat) : runFC Tryz.prog T K22 (fun _ _ => none) false FU 49 R (mkAs T [29] [.l (List.map nv [a, b, c, d, e, f, g])]) (fun _ => none) 0 (fun out => ob (resC T false [.d 58] out) k) = k [.d 58 (.i (dnum (List.map nv [a, b, c, d, e, f, g]) 0 1))] := by kernel_rfl
theorem dnum_8 (R : Type) (k : List Rs → Option R) (a b c d e f g h : Nat) : runFC Tryz.prog T K22 (fun _ _ => none) false FU 49 R (mkAs T [29] [.l (List.map nv [a, b, c, d, e, f, g, h])]) (fun _ => none) 0 (fun out => ob (resC T false [.d 58] out) k) = k [.d 58 (.i (dnum (List.map nv [a, b, c, d, e, f, g, h]) 0 1))] := by kernel_rfl
noncomputable def tab23 : List (Nat × SymC) := (49, pureS T false [29] (numF 58)) :: tab22
theorem tab23_ok : TabOK Tryz.prog T tab23 := by
  refine pure_con (sh := false) (rk := [.d 58]) (d := 4) (fu := FU) (Lo := (fun _ _ => none)) follows T_ok tab22_ok (numF_nat 58) (by kernel_rfl) loopsC_none (fun xs rs htv hrs => ?_)
  match xs, htv, htv.len with
  | [x], htv, _ =>
    obtain ⟨e, cs, hx⟩ := htv.head
    rcases tv_bytes (T := T) (t := 29) (el := 5) (by kernel_rfl) (by kernel_rfl) hx with rfl | ⟨ns, rfl, hb⟩
    · have hrs : some [Rs.d 58 (.i (numE (V.els .n)))] = some rs := hrs
      rw [← hrs]
      have h := dnum_n (List Rs) some
      simp only [ob_id] at h
      exact h
    · obtain ⟨hl, hrs⟩ := numF_at hrs
      rw [hrs]
      have hb : Byt ns := hb
      match ns, hl, hb with
      | [], _, hb =>
        have h := dnum_0 (List Rs) some
        rw [dnum_numE hb (by simp)] at h
        simp only [ob_id] at h
        exact h
      | [a], _, hb =>
        have h := dnum_1 (List Rs) some a
        rw [dnum_numE hb (by simp)] at h
        simp only [ob_id] at h
        exact h
      | [a, b], _, hb =>
        have h := dnum_2 (List Rs) some a b
        rw [dnum_numE hb (by simp)] at h
        simp only [ob_id] at h
        exact h
      | [a, b, c], _, hb =>
        have h := dnum_3 (List Rs) some a b c
        rw [dnum_numE hb (by simp)] at h
        simp only [ob_id] at h
        exact h
      | [a, b, c, d], _, hb =>
        have h := dnum_4 (List Rs) some a b c d
        rw [dnum_numE hb (by simp)] at h
        simp only [ob_id] at h
        exact h
      | [a, b, c, d, e], _, hb =>
        have h := dnum_5 (List Rs) some a b c d e
        rw [dnum_numE hb (by simp)] at h
        simp only [ob_id] at h
        exact h
      | [a, b, c, d, e, f], _, hb =>
        have h := dnum_6 (List Rs) some a b c d e f
        rw [dnum_numE hb (by simp)] at h
        simp only [ob_id] at h
        exact h
      | [a, b, c, d, e, f, g], _, hb =>
        have h := dnum_7 (List Rs) some a b c d e f g
        rw [dnum_numE hb (by simp)] at h
        simp only [ob_id] at h
        exact h
      | [a, b, c, d, e, f, g, h], _, hb =>
        have h := dnum_8 (List Rs) some a b c d e f g h
        rw [dnum_numE hb (by simp)] at h
        simp only [ob_id] at h
        exact h
      | _ :: _ :: _ :: _ :: _ :: _ :: _ :: _ :: _ :: _, hl, _ => exact absurd hl (by simp)
noncomputable def K23 : KC := runAC Tryz.prog T tab23 false FU 4
theorem hK23 : K23.nat := runAC_nat tab23_ok 4
theorem hS23 : KOK Tryz.prog T K23.dir := runAC_ok follows T_ok tab23_ok 4
theorem run_docraw (R : Type) (xs : List V) (err n : Int) (k : List Rs → Option R) : runFC Tryz.prog T K23 (fun _ _ => none) false FU 27 R (.p 0 68 [] :: mkAs T [3] [.i n]) (box0 68 (.l [.l xs, .i err])) 1 (fun out => ob (resM T 68 (.l [.l xs, .i err]) [.d 29] out) k) = drG 68 29 xs err n k := by kernel_rfl
theorem run_docrawN (R : Type) (err n : Int) (k : List Rs → Option R) : runFC Tryz.prog T K23 (fun _ _ => none) false FU 27 R (.p 0 68 [] :: mkAs T [3] [.i n]) (box0 68 (.l [.n, .i err])) 1 (fun out => ob (resM T 68 (.l [.n, .i err]) [.d 29] out) k) = drN 68 29 err n k := by kernel_rfl
noncomputable def tab24 : List (Nat × SymC) := (27, pureM T 68 [3] (drF 68 29)) :: tab23
theorem tab24_ok : TabOK Tryz.prog T tab24 := by
  refine pureM_con (rk := [.d 29]) (d := 4) (fu := FU) (Lo := (fun _ _ => none)) follows T_ok tab23_ok (drF_nat 68 29) (by kernel_rfl) (by kernel_rfl) loopsC_none (fun x xs rs htv hrs => ?_)
  match xs, htv, htv.len with
  | [n], htv, _ =>
    obtain ⟨e, cs, hx⟩ := htv.head
    obtain ⟨e2, cs2, hn⟩ := htv.tail.head
    obtain ⟨n, rfl, _⟩ := tv_int (T := T) (t := 3) (k := .i64) (by kernel_rfl) hn
    obtain ⟨y, err, rfl, _, rfl | ⟨ys, rfl⟩⟩ := tv_two (T := T) (t := 68) (s := 29) (el := 5) (er := 3) (k := .i64) (by kernel_rfl) (by kernel_rfl) (by kernel_rfl) hx
    · have h := (run_docrawN (List Rs) err n some).trans (dr_lawN 68 29 hrs)
      simp only [ob_id] at h
      exact h
    · have h := (run_docraw (List Rs) ys err n some).trans (dr_law 68 29 hrs)
      simp only [ob_id] at h
      exact h
noncomputable def K24 : KC := runAC Tryz.prog T tab24 false FU 4
theorem hK24 : K24.nat := runAC_nat tab24_ok 4
theorem hS24 : KOK Tryz.prog T K24.dir := runAC_ok follows T_ok tab24_ok 4
theorem run_docfx (R : Type) (x : V) (n : Int) (k : List Rs → Option R) : runFC Tryz.prog T K24 (fun _ _ => none) false FU 26 R (.p 0 68 [] :: mkAs T [3] [.i n]) (box0 68 x) 1 (fun out => ob (resM T 68 x [.d 58] out) k) = fxG 68 58 x n k := by kernel_rfl
noncomputable def tab25 : List (Nat × SymC) := (26, pureM T 68 [3] (fxF 68 58)) :: tab24
theorem tab25_ok : TabOK Tryz.prog T tab25 := by
  refine pureM_con (rk := [.d 58]) (d := 4) (fu := FU) (Lo := (fun _ _ => none)) follows T_ok tab24_ok (fxF_nat 68 58) (by kernel_rfl) (by kernel_rfl) loopsC_none (fun x xs rs htv hrs => ?_)
  match xs, htv, htv.len with
  | [n], htv, _ =>
    obtain ⟨e2, cs2, hn⟩ := htv.tail.head
    obtain ⟨n, rfl, _⟩ := tv_int (T := T) (t := 3) (k := .i64) (by kernel_rfl) hn
    have h := (run_docfx (List Rs) x n some).trans (fx_law 68 58 hrs)
    simp only [ob_id] at h
    exact h
noncomputable def K25 : KC := runAC Tryz.prog T tab25 false FU 4
theorem hK25 : K25.nat := runAC_nat tab25_ok 4
theorem hS25 : KOK Tryz.prog T K25.dir := runAC_ok follows T_ok tab25_ok 4
theorem run_dct (R : Type) (xs : List V) (err n : Int) (k : List Rs → Option R) : runFC Tryz.prog T K25 (fun _ _ => none) false FU 30 R (.p 0 68 [] :: mkAs T [58] [.i n]) (box0 68 (.l [.l xs, .i err])) 1 (fun out => ob (resM T 68 (.l [.l xs, .i err]) [.d 58] out) k) = dcG 68 58 xs err n k := by kernel_rfl
theorem run_dctN (R : Type)  (err n : Int) (k : List Rs → Option R) : runFC Tryz.prog T K25 (fun _ _ => none) false FU 30 R (.p 0 68 [] :: mkAs T [58] [.i n]) (box0 68 (.l [.n, .i err])) 1 (fun out => ob (resM T 68 (.l [.n, .i err]) [.d 58] out) k) = dcN 68 58 err n k := by kernel_rfl
noncomputable def tab26 : List (Nat × SymC) := (30, pureM T 68 [58] (ctF 68 58)) :: tab25
theorem tab26_ok : TabOK Tryz.prog T tab26 := by
  refine pureM_con (rk := [.d 58]) (d := 4) (fu := FU) (Lo := (fun _ _ => none)) follows T_ok tab25_ok (ctF_nat 68 58) (by kernel_rfl) (by kernel_rfl) loopsC_none (fun x xs rs htv hrs => ?_)
  have hd := htv.has 40 (ds := [.struct [.slice (.int .u8), .int .i64], .int .u64]) (by kernel_rfl)
  match xs, hd with
  | [n], hd =>
    obtain ⟨hx, hn, _⟩ := hd
    obtain ⟨n, rfl, _⟩ := hn
    obtain ⟨zs, rfl, hz⟩ := hx
    obtain ⟨y, er, rfl, hy, he⟩ := hasL2 hz
    obtain ⟨err, rfl, _⟩ := he
    obtain ⟨ho, hrs⟩ := dctF_at hrs
    rw [hrs]
    rcases hy with rfl | ⟨ys, rfl, hys⟩
    · have h := (run_dctN (List Rs) err n some).trans (dc_lawN 68 58)
      simp only [ob_id] at h
      exact h
    · obtain ⟨ys, rfl, hb⟩ := u8s hys
      have h := (run_dct (List Rs) (ys.map nv) err n some).trans (dc_law 68 58 hb ho)
      simp only [ob_id] at h
      exact h
noncomputable def K26 : KC := runAC Tryz.prog T tab26 false FU 4
theorem hK26 : K26.nat := runAC_nat tab26_ok 4
theorem hS26 : KOK Tryz.prog T K26.dir := runAC_ok follows T_ok tab26_ok 4
theorem run_dtx (R : Type) (x : V) (n : Int) (k : List Rs → Option R) : runFC Tryz.prog T K26 (fun _ _ => none) false FU 29 R (.p 0 68 [] :: mkAs T [3] [.i n]) (box0 68 x) 1 (fun out => ob (resM T 68 x [.d 29] out) k) = dtG 68 29 x n k := by kernel_rfl
noncomputable def tab27 : List (Nat × SymC) := (29, pureM T 68 [3] (dtF 68 29)) :: tab26
theorem tab27_ok : TabOK Tryz.prog T tab27 := by
  refine pureM_con (rk := [.d 29]) (d := 4) (fu := FU) (Lo := (fun _ _ => none)) follows T_ok tab26_ok (dtF_nat 68 29) (by kernel_rfl) (by kernel_rfl) loopsC_none (fun x xs rs htv hrs => ?_)
  have hd := htv.has 40 (ds := [.struct [.slice (.int .u8), .int .i64], .int .i64]) (by kernel_rfl)
  obtain ⟨x', n, q, hx, hn⟩ := hasL2 hd
  cases q
  obtain ⟨n, rfl, _⟩ := hn
  obtain ⟨zs, rfl, hz⟩ := hx
  obtain ⟨y, er, rfl, hy, he⟩ := hasL2 hz
  obtain ⟨err, rfl, _⟩ := he
  obtain ⟨ho, hrs⟩ := dtxF_at hrs
  rw [hrs]
  rcases hy with rfl | ⟨ys, rfl, hys⟩
  · have h := (run_dtx (List Rs) (.l [.n, .i err]) n some).trans (dt_lawN 68 29)
    simp only [ob_id] at h
    exact h
  · obtain ⟨ys, rfl, hb⟩ := u8s hys
    have h := (run_dtx (List Rs) (.l [.l (ys.map nv), .i err]) n some).trans (dt_law 68 29 hb ho)
    simp only [ob_id] at h
    exact h
noncomputable def K27 : KC := runAC Tryz.prog T tab27 false FU 4
theorem hK27 : K27.nat := runAC_nat tab27_ok 4
theorem hS27 : KOK Tryz.prog T K27.dir := runAC_ok follows T_ok tab27_ok 4
def tmRr : PRr → Vm.St
  | .m y s r0 r a i => ⟨[(2, .p 1 26 []), (3, .p 2 26 []), (4, .v 29 y), (5, .i .u64 a), (18, .i .i64 i)], (.n (some (.box 68 (.v 68 s) false)) (.n (some (.box 26 (.v 26 r0) false)) .e .e) (.n (some (.box 26 (.v 26 r) false)) .e .e)), [0], 3, some []⟩
def ekRr (R : Type) (kx : Exit → Vm.St → Option R) : QRr → Option R
  | .o y s r0 r a i => kx (.exit 0) ⟨[(2, .p 1 26 []), (3, .p 2 26 []), (4, .v 29 y), (5, .i .u64 a), (18, .i .i64 i)], (.n (some (.box 68 (.v 68 s) false)) (.n (some (.box 26 (.v 26 r0) false)) .e .e) (.n (some (.box 26 (.v 26 r) false)) .e .e)), [0], 16, some []⟩
def extRr : Vm.St → Option PRr
  | ⟨[(2, .p 1 26 []), (3, .p 2 26 []), (4, .v 29 y), (5, .i .u64 a), (18, .i .i64 i)], (.n (some (.box 68 (.v 68 s) false)) (.n (some (.box 26 (.v 26 r0) false)) .e .e) (.n (some (.box 26 (.v 26 r) false)) .e .e)), [0], 3, some []⟩ => some (.m y s r0 r a i)
  | _ => none
theorem extRr_ok (τ : Vm.St) (x : PRr) (h : extRr τ = some x) : τ = tmRr x := by
  unfold extRr at h
  split at h <;> first | (cases h; rfl) | cases h
theorem stepRr (R : Type) (of : Nat → Option Ob) (x : PRr) (K : Vm.St → Option R) (kx : Exit → Vm.St → Option R) : execC T K27 (fun _ => none) false FU (ntOf Tryz.prog 28) of R (lp (codeOf Tryz.prog 28) 0) (tmRr x) (sortN 1 [2, 3, 4, 5, 18] 16 K kx) = BRr R x (fun x' => K (tmRr x')) (ekRr R kx) := by
  cases x
  · kernel_rfl
noncomputable def HRr : LS := loopH T K27 (fun _ => none) (ntOf Tryz.prog 28) (lp (codeOf Tryz.prog 28) 0) 1 [2, 3, 4, 5, 18] 16 extRr BRr ekRr
theorem HRr_ok : LoopTk Tryz.prog T (ntOf Tryz.prog 28) 1 (lp (codeOf Tryz.prog 28) 0) HRr :=
  loopH_ok follows T_ok hK27 hS27 loNat_none (loopsOK_none _) tmRr extRr_ok stepRr
noncomputable def LoRr : Nat → LC := atN 1 [(7, HRr)]
theorem LoRr_ok : LoopsC Tryz.prog T 28 LoRr := loopsC_at 1 (List.forall_mem_cons.2 ⟨HRr_ok.1, fun _ h => by cases h⟩) 1 (by kernel_rfl) ⟨trivial, loI (s0 := HRr) (by kernel_rfl) HRr_ok⟩
theorem run_drr (R : Type) (x : V) (k : List Rs → Option R) : runFC Tryz.prog T K27 LoRr false FU 28 R (.p 0 68 [] :: mkAs T [] []) (box0 68 x) 1 (fun out => ob (resM T 68 x [.d 26] out) k) = drrG 68 26 x k := by kernel_rfl
noncomputable def tab28 : List (Nat × SymC) := (28, pureM T 68 [] (rrF 68 26)) :: tab27
theorem tab28_ok : TabOK Tryz.prog T tab28 := by
  refine pureM_con (rk := [.d 26]) (d := 4) (fu := FU) (Lo := LoRr) follows T_ok tab27_ok (rrF_nat 68 26) (by kernel_rfl) (by kernel_rfl) LoRr_ok (fun x xs rs htv hrs => ?_)
  have hd := htv.has 40 (ds := [.struct [.slice (.int .u8), .int .i64]]) (by kernel_rfl)
  obtain ⟨x', q, hx⟩ := hasL1 hd
  cases q
  obtain ⟨zs, rfl, hz⟩ := hx
  obtain ⟨y, er, rfl, hy, he⟩ := hasL2 hz
  obtain ⟨err, rfl, _⟩ := he
  obtain ⟨ho, hrs⟩ := rrF_at hrs
  rw [hrs]
  rcases hy with rfl | ⟨ys, rfl, hys⟩
  · have h := (run_drr (List Rs) (.l [.n, .i err]) some).trans (drr_lawN 68 26)
    simp only [ob_id] at h
    exact h
  · obtain ⟨ys, rfl, hb⟩ := u8s hys
    have h := (run_drr (List Rs) (.l [.l (ys.map nv), .i err]) some).trans (drr_law 68 26 hb ho)
    simp only [ob_id] at h
    exact h
noncomputable def K28 : KC := runAC Tryz.prog T tab28 false FU 4
theorem hK28 : K28.nat := runAC_nat tab28_ok 4
theorem hS28 : KOK Tryz.prog T K28.dir := runAC_ok follows T_ok tab28_ok 4
end Go.Proofs.YtdilkihonfnpcaaGreat

namespace Go.Proofs.YtdilkihonfnpcaaGreat
open Go.Vm
set_option maxRecDepth 100000
set_option linter.unusedVariables false
set_option linter.constructorNameAsVariable false
theorem run_dqr (k n m : Int) (hs rh nm : List V) : runFC Tryz.prog T K28 (fun _ _ => none) false FU 9 (List Rs) (mkAs T [28] [.l [.i k, .l hs, .l [.l rh, .i n], .s nm, .i m]]) (fun _ => none) 0 (fun out => resC T true [.d 4] out) = drtG 4 k n m hs rh nm := by kernel_rfl
noncomputable def tab29 : List (Nat × SymC) := (9, pureS T true [28] (ynF 4 (on1 smN) (on1 rqR))) :: tab28
theorem tab29_ok : TabOK Tryz.prog T tab29 := by
  refine pure_con (sh := true) (rk := [.d 4]) (d := 4) (fu := FU) (Lo := (fun _ _ => none)) follows T_ok tab28_ok (ynF_nat 4 (on1 smN) (on1 rqR)) (by kernel_rfl) loopsC_none (fun xs rs htv hrs => ?_)
  obtain ⟨a, rfl, ha⟩ := hasL1 (htv.has 40 (ds := [DReq]) (by kernel_rfl))
  obtain ⟨hg, rfl⟩ := ynF_at hrs
  obtain ⟨k, hs, rh, n, nm, m, rfl, _⟩ := req_v ha
  exact (run_dqr k n m hs rh nm).trans (drtG_law hg)
noncomputable def K29 : KC := runAC Tryz.prog T tab29 false FU 4
theorem hK29 : K29.nat := runAC_nat tab29_ok 4
theorem hS29 : KOK Tryz.prog T K29.dir := runAC_ok follows T_ok tab29_ok 4
theorem run_dqb1 (n m : Int) (hs rh nm : List V) : runFC Tryz.prog T K29 (fun _ _ => none) false FU 11 (List Rs) (mkAs T [28] [.l [.i 1, .l hs, .l [.l rh, .i n], .s nm, .i m]]) (fun _ => none) 0 (fun out => resC T true [.r 5] out) = some [.r 5 ([.i 1]) false] := by kernel_rfl
theorem run_dqb2 (n m : Int) (hs rh nm : List V) : runFC Tryz.prog T K29 (fun _ _ => none) false FU 11 (List Rs) (mkAs T [28] [.l [.i 2, .l hs, .l [.l rh, .i n], .s nm, .i m]]) (fun _ => none) 0 (fun out => resC T true [.r 5] out) = (lim (1 + ((hs.drop 0).take 32).length) <| some [.r 5 (.i 2 :: (hs.drop 0).take 32) false]) := by kernel_rfl
theorem run_dqb3 (n m : Int) (hs rh nm : List V) : runFC Tryz.prog T K29 (fun _ _ => none) false FU 11 (List Rs) (mkAs T [28] [.l [.i 3, .l hs, .l [.l rh, .i n], .s nm, .i m]]) (fun _ => none) 0 (fun out => resC T true [.r 5] out) = (lim (1 + (refB (.l [.l rh, .i n])).length) <| some [.r 5 (.i 3 :: refB (.l [.l rh, .i n])) false]) := by kernel_rfl
theorem run_dqb4 (n m : Int) (hs rh nm : List V) : runFC Tryz.prog T K29 (fun _ _ => none) false FU 11 (List Rs) (mkAs T [28] [.l [.i 4, .l hs, .l [.l rh, .i n], .s nm, .i m]]) (fun _ => none) 0 (fun out => resC T true [.r 5] out) = (bif shb (.l nm) then lim (1 + (txtL nm).length) <| some [.r 5 (.i 4 :: txtL nm) false] else none) := by kernel_rfl
theorem run_dqb5 (n m : Int) (hs rh nm : List V) : runFC Tryz.prog T K29 (fun _ _ => none) false FU 11 (List Rs) (mkAs T [28] [.l [.i 5, .l hs, .l [.l rh, .i n], .s nm, .i m]]) (fun _ => none) 0 (fun out => resC T true [.r 5] out) = (bif shb (.l nm) then lim (1 + (txtL nm).length) <| some [.r 5 (.i 5 :: txtL nm) false] else none) := by kernel_rfl
theorem run_dqb6 (n m : Int) (hs rh nm : List V) : runFC Tryz.prog T K29 (fun _ _ => none) false FU 11 (List Rs) (mkAs T [28] [.l [.i 6, .l hs, .l [.l rh, .i n], .s nm, .i m]]) (fun _ => none) 0 (fun out => resC T true [.r 5] out) = (bif shb (.l nm) then lim (1 + (txtL nm).length) <| lim ((.i 6 :: txtL nm).length + (cntL (WU m)).length) <| some [.r 5 (.i 6 :: (txtL nm ++ cntL (WU m))) false] else none) := by kernel_rfl
theorem run_dqb7 (n m : Int) (hs rh nm : List V) : runFC Tryz.prog T K29 (fun _ _ => none) false FU 11 (List Rs) (mkAs T [28] [.l [.i 7, .l hs, .l [.l rh, .i n], .s nm, .i m]]) (fun _ => none) 0 (fun out => resC T true [.r 5] out) = (bif shb (.l nm) then lim (1 + (txtL nm).length) <| some [.r 5 (.i 7 :: txtL nm) false] else none) := by kernel_rfl
noncomputable def tab30 : List (Nat × SymC) := (11, pureS T true [28] (gF (on1 rqR) (fun xs => match xs with | [x] => [.r 5 (rqB x) false] | _ => []))) :: tab29
theorem tab30_ok : TabOK Tryz.prog T tab30 := by
  refine pure_conG (sh := true) (rk := [.r 5]) (d := 4) (fu := FU) (Lo := (fun _ _ => none)) (ds := [DReq]) follows T_ok tab29_ok (by kernel_rfl) loopsC_none 40 (by kernel_rfl) (fun xs hd hg => ?_)
  obtain ⟨a, rfl, ha⟩ := hasL1 hd
  obtain ⟨p, hp⟩ := rq_of ha hg
  have hs2 : ∀ v : List Nat, v.length ≤ 64 → shb (.l (v.map nv)) = true := fun v hv => Nat.ble_eq_true_of_le (by show (v.map nv).length ≤ 268435456; rw [List.length_map]; omega)
  have tl : ∀ v : List Nat, v.length ≤ 64 → (txtL (v.map nv)).length ≤ 80 := fun v hv => by
    rw [txtL_nv, List.length_map, List.length_append, cntB_one (by omega)]; simp; omega
  cases hp with
  | tip => exact run_dqb1 _ _ _ _ _
  | blk hs h1 h2 =>
    have e : ((hs.map nv).drop 0).take 32 = hs.map nv := List.take_of_length_le (by simp; omega)
    refine (run_dqb2 _ _ _ _ _).trans ?_
    rw [e, lim_in (by simp; omega)]; rfl
  | coin hs c h1 h2 h3 =>
    refine (run_dqb3 _ _ _ _ _).trans ?_
    rw [lim_in (by rw [refB_len (x := .l [.l (hs.map nv), .i (c : Int)]) ⟨_, rfl, ⟨_, rfl, by simpa using h2, fun y hy => (by obtain ⟨q, hq, rfl⟩ := List.mem_map.1 hy; exact ⟨_, rfl, by simp [inR, lo, hi]; have := h1 q hq; omega⟩)⟩, ⟨_, rfl, by simp [inR, lo, hi]; omega⟩, trivial⟩]; omega)]; rfl
  | name k v hk h1 h2 =>
    have t1 := tl v h2
    rcases hk with rfl | rfl | rfl
    · refine (run_dqb4 _ _ _ _ _).trans ?_; rw [hs2 v h2, cond_true, lim_in (by omega)]; rfl
    · refine (run_dqb5 _ _ _ _ _).trans ?_; rw [hs2 v h2, cond_true, lim_in (by omega)]; rfl
    · refine (run_dqb7 _ _ _ _ _).trans ?_; rw [hs2 v h2, cond_true, lim_in (by omega)]; rfl
  | scan v m h1 h2 h3 =>
    have t1 := tl v h2
    have c1 := cntL_len (WU (m : Int))
    refine (run_dqb6 _ _ _ _ _).trans ?_
    rw [hs2 v h2, cond_true, lim_in (by omega), lim_in (by rw [List.length_cons]; omega), wu64_lt (by omega)]; rfl
noncomputable def K30 : KC := runAC Tryz.prog T tab30 false FU 4
theorem hK30 : K30.nat := runAC_nat tab30_ok 4
theorem hS30 : KOK Tryz.prog T K30.dir := runAC_ok follows T_ok tab30_ok 4
end Go.Proofs.YtdilkihonfnpcaaGreat

namespace Go.Proofs.YtdilkihonfnpcaaGreat
open Go.Vm
set_option maxRecDepth 100000
set_option linter.unusedVariables false
set_option linter.constructorNameAsVariable false
def tmPq : PPq → Vm.St
  | .m y s r0 r n i => ⟨[(2, .p 0 28 []), (3, .i .i64 0), (4, .p 1 68 []), (5, .p 2 28 []), (20, .v 29 y), (21, .i .i64 n), (22, .i .i64 i)], (.n (some (.box 28 (.v 28 r0) false)) (.n (some (.box 68 (.v 68 s) false)) .e .e) (.n (some (.box 28 (.v 28 r) false)) .e .e)), [], 3, some []⟩
def ekPq (R : Type) (kx : Exit → Vm.St → Option R) : QPq → Option R
  | .o y s r0 r n i => kx (.exit 1) ⟨[(2, .p 0 28 []), (3, .i .i64 0), (4, .p 1 68 []), (5, .p 2 28 []), (20, .v 29 y), (21, .i .i64 n), (22, .i .i64 i)], (.n (some (.box 28 (.v 28 r0) false)) (.n (some (.box 68 (.v 68 s) false)) .e .e) (.n (some (.box 28 (.v 28 r) false)) .e .e)), [], 16, some []⟩
def extPq : Vm.St → Option PPq
  | ⟨[(2, .p 0 28 []), (3, .i .i64 0), (4, .p 1 68 []), (5, .p 2 28 []), (20, .v 29 y), (21, .i .i64 n), (22, .i .i64 i)], (.n (some (.box 28 (.v 28 r0) false)) (.n (some (.box 68 (.v 68 s) false)) .e .e) (.n (some (.box 28 (.v 28 r) false)) .e .e)), [], 3, some []⟩ => some (.m y s r0 r n i)
  | _ => none
theorem extPq_ok (τ : Vm.St) (x : PPq) (h : extPq τ = some x) : τ = tmPq x := by
  unfold extPq at h
  split at h <;> first | (cases h; rfl) | cases h
theorem stepPq (R : Type) (of : Nat → Option Ob) (x : PPq) (K : Vm.St → Option R) (kx : Exit → Vm.St → Option R) : execC T K30 (fun _ => none) false FU (ntOf Tryz.prog 7) of R (lp (codeOf Tryz.prog 7) 0) (tmPq x) (sortN 0 [2, 3, 4, 5, 20, 21, 22] 16 K kx) = BPq R x (fun x' => K (tmPq x')) (ekPq R kx) := by
  cases x
  · kernel_rfl
noncomputable def HPq : LS := loopH T K30 (fun _ => none) (ntOf Tryz.prog 7) (lp (codeOf Tryz.prog 7) 0) 0 [2, 3, 4, 5, 20, 21, 22] 16 extPq BPq ekPq
theorem HPq_ok : LoopTk Tryz.prog T (ntOf Tryz.prog 7) 0 (lp (codeOf Tryz.prog 7) 0) HPq :=
  loopH_ok follows T_ok hK30 hS30 loNat_none (loopsOK_none _) tmPq extPq_ok stepPq
noncomputable def LoPq : Nat → LC := atN 0 [(6, HPq)]
theorem LoPq_ok : LoopsC Tryz.prog T 7 LoPq := loopsC_at 0 (List.forall_mem_cons.2 ⟨HPq_ok.1, fun _ h => by cases h⟩) 1 (by kernel_rfl) ⟨trivial, loI (s0 := HPq) (by kernel_rfl) HPq_ok⟩
theorem run_dqp (bs : List V) : runFC Tryz.prog T K30 LoPq false FU 7 (List Rs) (mkAs T [29] [.l bs]) (fun _ => none) 0 (fun out => resC T true [.d 28, .d 3] out) = dqG 28 3 (.l bs) := by kernel_rfl
theorem run_dqpN  : runFC Tryz.prog T K30 LoPq false FU 7 (List Rs) (mkAs T [29] [.n]) (fun _ => none) 0 (fun out => resC T true [.d 28, .d 3] out) = dqG 28 3 (.n) := by kernel_rfl
noncomputable def tab31 : List (Nat × SymC) := (7, pureS T true [29] (gF (on1 shb) (fun xs => match xs with | [x] => [.d 28 (pqV x), .d 3 (.i (pqE x))] | _ => []))) :: tab30
theorem tab31_ok : TabOK Tryz.prog T tab31 := by
  refine pure_conG (sh := true) (rk := [.d 28, .d 3]) (d := 4) (fu := FU) (Lo := LoPq) (ds := [.slice (.int .u8)]) follows T_ok tab30_ok (by kernel_rfl) LoPq_ok 40 (by kernel_rfl) (fun xs hd hg => ?_)
  obtain ⟨a, rfl, ha⟩ := hasL1 hd
  have hl := shb_le hg
  rcases ha with rfl | ⟨ys, rfl, hys⟩
  · exact run_dqpN.trans (dqG_law (.inl rfl) hl)
  · obtain ⟨ns, rfl, _⟩ := u8s hys
    exact (run_dqp _).trans (dqG_law (.inr ⟨ns, rfl⟩) hl)
noncomputable def K31 : KC := runAC Tryz.prog T tab31 false FU 4
theorem hK31 : K31.nat := runAC_nat tab31_ok 4
theorem hS31 : KOK Tryz.prog T K31.dir := runAC_ok follows T_ok tab31_ok 4
end Go.Proofs.YtdilkihonfnpcaaGreat
end

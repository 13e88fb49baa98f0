/- What functions compute, and the law run. -/
import Derived.Test.YtbalmjokchcfiaaGreatTy
import Derived.Test.YtbalmjokchcfiaaGreatVm9
set_option linter.constructorNameAsVariable false
set_option linter.unusedVariables false
set_option linter.unusedSimpArgs false
noncomputable section
namespace Go.Proofs.YtbalmjokchcfiaaGreat
open Go.Vm
set_option maxRecDepth 100000
set_option linter.unusedVariables false
noncomputable def tab1 : List (Nat × SymC) := []
theorem tab1_ok : TabOK Tryz.prog T tab1 := tabOK_nil
noncomputable def K1 : KC := runAC Tryz.prog T tab1 false FU 4
theorem hK1 : K1.nat := runAC_nat tab1_ok 4
theorem hS1 : ∀ f, SymOK Tryz.prog T f (K1 f).dir := runAC_ok follows T_ok tab1_ok 4
def tmSpA : PSpA → Vm.St
  | .m x z i w => ⟨[(0, .v 47 x), (2, .p 0 187 []), (3, .p 1 187 []), (8, .i .i64 i)], (.n (some (.box 187 (.v 187 z) false)) (.n (some (.box 187 (.v 187 w) false)) .e .e) .e), [], 2, some []⟩
def ekSpA (R : Type) (kx : Exit → Vm.St → Option R) : QSpA → Option R
  | .o x z i w => kx (.exit 0) ⟨[(0, .v 47 x), (2, .p 0 187 []), (3, .p 1 187 []), (8, .i .i64 i)], (.n (some (.box 187 (.v 187 z) false)) (.n (some (.box 187 (.v 187 w) false)) .e .e) .e), [], 16, some []⟩
def extSpA : Vm.St → Option PSpA
  | ⟨[(0, .v 47 x), (2, .p 0 187 []), (3, .p 1 187 []), (8, .i .i64 i)], (.n (some (.box 187 (.v 187 z) false)) (.n (some (.box 187 (.v 187 w) false)) .e .e) .e), [], 2, some []⟩ => some (.m x z i w)
  | _ => none
theorem extSpA_ok (τ : Vm.St) (x : PSpA) (h : extSpA τ = some x) : τ = tmSpA x := by
  unfold extSpA at h
  split at h <;> first | (cases h; rfl) | cases h
theorem stepSpA (R : Type) (of : Nat → Option Ob) (x : PSpA) (K : Vm.St → Option R) (kx : Exit → Vm.St → Option R) : execC T K1 (fun _ => none) false FU (ntOf Tryz.prog 104) of R (lp (codeOf Tryz.prog 104) 0) (tmSpA x) (sortN 0 [0, 2, 3, 8] 16 K kx) = BSpA R x (fun x' => K (tmSpA x')) (ekSpA R kx) := by
  cases x
  · kernel_rfl
noncomputable def HSpA : LS := loopH T K1 (fun _ => none) (ntOf Tryz.prog 104) (lp (codeOf Tryz.prog 104) 0) 0 [0, 2, 3, 8] 16 extSpA BSpA ekSpA
theorem HSpA_ok : LoopTk Tryz.prog T (ntOf Tryz.prog 104) 0 (lp (codeOf Tryz.prog 104) 0) HSpA :=
  loopH_ok follows T_ok hK1 hS1 loNat_none (loopsOK_none _) tmSpA extSpA_ok stepSpA
def tmSpB : PSpB → Vm.St
  | .m z i w => ⟨[(2, .p 0 187 []), (3, .p 1 187 []), (5, .i .i64 i)], (.n (some (.box 187 (.v 187 z) false)) (.n (some (.box 187 (.v 187 w) false)) .e .e) .e), [], 2, some []⟩
def ekSpB (R : Type) (kx : Exit → Vm.St → Option R) : QSpB → Option R
  | .o z i w => kx (.exit 2) ⟨[(2, .p 0 187 []), (3, .p 1 187 []), (5, .i .i64 i)], (.n (some (.box 187 (.v 187 z) false)) (.n (some (.box 187 (.v 187 w) false)) .e .e) .e), [], 16, some []⟩
def extSpB : Vm.St → Option PSpB
  | ⟨[(2, .p 0 187 []), (3, .p 1 187 []), (5, .i .i64 i)], (.n (some (.box 187 (.v 187 z) false)) (.n (some (.box 187 (.v 187 w) false)) .e .e) .e), [], 2, some []⟩ => some (.m z i w)
  | _ => none
theorem extSpB_ok (τ : Vm.St) (x : PSpB) (h : extSpB τ = some x) : τ = tmSpB x := by
  unfold extSpB at h
  split at h <;> first | (cases h; rfl) | cases h
theorem stepSpB (R : Type) (of : Nat → Option Ob) (x : PSpB) (K : Vm.St → Option R) (kx : Exit → Vm.St → Option R) : execC T K1 (fun _ => none) false FU (ntOf Tryz.prog 104) of R (lp (codeOf Tryz.prog 104) 1) (tmSpB x) (sortN 0 [2, 3, 5] 16 K kx) = BSpB R x (fun x' => K (tmSpB x')) (ekSpB R kx) := by
  cases x
  · kernel_rfl
noncomputable def HSpB : LS := loopH T K1 (fun _ => none) (ntOf Tryz.prog 104) (lp (codeOf Tryz.prog 104) 1) 0 [2, 3, 5] 16 extSpB BSpB ekSpB
theorem HSpB_ok : LoopTk Tryz.prog T (ntOf Tryz.prog 104) 0 (lp (codeOf Tryz.prog 104) 1) HSpB :=
  loopH_ok follows T_ok hK1 hS1 loNat_none (loopsOK_none _) tmSpB extSpB_ok stepSpB
noncomputable def LoSp : Nat → LC := atN 0 [(3, HSpA), (8, HSpB)]
theorem LoSp_ok : LoopsC Tryz.prog T 104 LoSp := loopsC_at 0 (List.forall_mem_cons.2 ⟨HSpA_ok.1, List.forall_mem_cons.2 ⟨HSpB_ok.1, fun _ h => by cases h⟩⟩) 2 (by kernel_rfl) ⟨⟨trivial, loI (s0 := HSpA) (by kernel_rfl) HSpA_ok⟩, loI (s0 := HSpB) (by kernel_rfl) HSpB_ok⟩
noncomputable def Gsp : FC := fun R xs k => match xs with
  | [x] => lpC (BSpA R) (hid FU) (.m x z64 0 z64) (fun | .o _ z _ w => lpC (BSpB R) (hid FU) (.m z 16 w) (fun | .o _ _ w => k [.d 187 w]))
  | _ => none
theorem run_sp (R : Type) (x : V) (k : List Rs → Option R) : runFC Tryz.prog T K1 LoSp false FU 104 R (mkAs T [47] [x]) (fun _ => none) 0 (fun out => ob (resC T false [.d 187] out) k) = Gsp R [x] k := by kernel_rfl
noncomputable def tab2 : List (Nat × SymC) := (104, pureS T false [47] (Fsp 187)) :: tab1
theorem tab2_ok : TabOK Tryz.prog T tab2 := by
  refine pure_run (sh := false) (rk := [.d 187]) (d := 4) (fu := FU) (Lo := LoSp) (G := Gsp) follows T_ok tab1_ok (Fsp_nat 187) (by kernel_rfl) LoSp_ok (fun R xs k htv => ?_) (fun xs rs htv hrs => ?_)
  · match xs, htv.len with
    | [x], _ => exact run_sp R x k
  · match xs, htv, htv.len with
    | [x], htv, _ =>
      obtain ⟨e, cs, hx⟩ := htv.head
      obtain ⟨bs, h1, h2⟩ := tv_slice (T := T) (el := 5) (kd := .u8) (by kernel_rfl) (by kernel_rfl) rfl hx
      simp only [Fsp] at hrs
      cases hl : Nat.ble 64 x.els.length with
      | false => rw [hl] at hrs; cases hrs
      | true =>
        rw [hl] at hrs
        have hl := Nat.le_of_ble_eq_true hl
        rw [h1, List.length_map] at hl
        exact (spread_law h1 (lt256 h2) hl HID (fun w => some [Rs.d 187 w])).trans hrs
noncomputable def K2 : KC := runAC Tryz.prog T tab2 false FU 4
theorem hK2 : K2.nat := runAC_nat tab2_ok 4
theorem hS2 : ∀ f, SymOK Tryz.prog T f (K2 f).dir := runAC_ok follows T_ok tab2_ok 4
def tmMxA : PMxA → Vm.St
  | .m s z w k x i => ⟨[(2, .p 0 178 []), (4, .p 1 178 []), (5, .p 3 187 []), (6, .p 4 187 []), (7, .p 5 178 []), (18, .i .i64 i)], (.n (some (.box 178 (.v 178 s) false)) (.n (some (.box 178 (.v 178 z) false)) (.n (some (.box 187 (.v 187 w) false)) .e .e) (.n (some (.box 178 (.v 178 x) false)) .e .e)) (.n none (.n (some (.box 187 (.v 187 k) false)) .e .e) .e)), [], 6, some []⟩
def ekMxA (R : Type) (kx : Exit → Vm.St → Option R) : QMxA → Option R
  | .o s z w k x i => kx (.exit 0) ⟨[(2, .p 0 178 []), (4, .p 1 178 []), (5, .p 3 187 []), (6, .p 4 187 []), (7, .p 5 178 []), (18, .i .i64 i)], (.n (some (.box 178 (.v 178 s) false)) (.n (some (.box 178 (.v 178 z) false)) (.n (some (.box 187 (.v 187 w) false)) .e .e) (.n (some (.box 178 (.v 178 x) false)) .e .e)) (.n none (.n (some (.box 187 (.v 187 k) false)) .e .e) .e)), [], 16, some []⟩
def extMxA : Vm.St → Option PMxA
  | ⟨[(2, .p 0 178 []), (4, .p 1 178 []), (5, .p 3 187 []), (6, .p 4 187 []), (7, .p 5 178 []), (18, .i .i64 i)], (.n (some (.box 178 (.v 178 s) false)) (.n (some (.box 178 (.v 178 z) false)) (.n (some (.box 187 (.v 187 w) false)) .e .e) (.n (some (.box 178 (.v 178 x) false)) .e .e)) (.n none (.n (some (.box 187 (.v 187 k) false)) .e .e) .e)), [], 6, some []⟩ => some (.m s z w k x i)
  | _ => none
theorem extMxA_ok (τ : Vm.St) (x : PMxA) (h : extMxA τ = some x) : τ = tmMxA x := by
  unfold extMxA at h
  split at h <;> first | (cases h; rfl) | cases h
theorem stepMxA (R : Type) (of : Nat → Option Ob) (x : PMxA) (K : Vm.St → Option R) (kx : Exit → Vm.St → Option R) : execC T K2 (fun _ => none) false FU (ntOf Tryz.prog 97) of R (lp (codeOf Tryz.prog 97) 0) (tmMxA x) (sortN 0 [2, 4, 5, 6, 7, 18] 16 K kx) = BMxA R x (fun x' => K (tmMxA x')) (ekMxA R kx) := by
  cases x
  · kernel_rfl
noncomputable def HMxA : LS := loopH T K2 (fun _ => none) (ntOf Tryz.prog 97) (lp (codeOf Tryz.prog 97) 0) 0 [2, 4, 5, 6, 7, 18] 16 extMxA BMxA ekMxA
theorem HMxA_ok : LoopTk Tryz.prog T (ntOf Tryz.prog 97) 0 (lp (codeOf Tryz.prog 97) 0) HMxA :=
  loopH_ok follows T_ok hK2 hS2 loNat_none (loopsOK_none _) tmMxA extMxA_ok stepMxA
def tmMxB : PMxB → Vm.St
  | .m s z x i => ⟨[(2, .p 0 178 []), (4, .p 1 178 []), (7, .p 5 178 []), (98, .i .i64 i)], (.n (some (.box 178 (.v 178 s) false)) (.n (some (.box 178 (.v 178 z) false)) .e (.n (some (.box 178 (.v 178 x) false)) .e .e)) .e), [], 6, some []⟩
def ekMxB (R : Type) (kx : Exit → Vm.St → Option R) : QMxB → Option R
  | .o s z x i => kx (.exit 2) ⟨[(2, .p 0 178 []), (4, .p 1 178 []), (7, .p 5 178 []), (98, .i .i64 i)], (.n (some (.box 178 (.v 178 s) false)) (.n (some (.box 178 (.v 178 z) false)) .e (.n (some (.box 178 (.v 178 x) false)) .e .e)) .e), [], 16, some []⟩
def extMxB : Vm.St → Option PMxB
  | ⟨[(2, .p 0 178 []), (4, .p 1 178 []), (7, .p 5 178 []), (98, .i .i64 i)], (.n (some (.box 178 (.v 178 s) false)) (.n (some (.box 178 (.v 178 z) false)) .e (.n (some (.box 178 (.v 178 x) false)) .e .e)) .e), [], 6, some []⟩ => some (.m s z x i)
  | _ => none
theorem extMxB_ok (τ : Vm.St) (x : PMxB) (h : extMxB τ = some x) : τ = tmMxB x := by
  unfold extMxB at h
  split at h <;> first | (cases h; rfl) | cases h
theorem stepMxB (R : Type) (of : Nat → Option Ob) (x : PMxB) (K : Vm.St → Option R) (kx : Exit → Vm.St → Option R) : execC T K2 (fun _ => none) false FU (ntOf Tryz.prog 97) of R (lp (codeOf Tryz.prog 97) 1) (tmMxB x) (sortN 0 [2, 4, 7, 98] 16 K kx) = BMxB R x (fun x' => K (tmMxB x')) (ekMxB R kx) := by
  cases x
  · kernel_rfl
noncomputable def HMxB : LS := loopH T K2 (fun _ => none) (ntOf Tryz.prog 97) (lp (codeOf Tryz.prog 97) 1) 0 [2, 4, 7, 98] 16 extMxB BMxB ekMxB
theorem HMxB_ok : LoopTk Tryz.prog T (ntOf Tryz.prog 97) 0 (lp (codeOf Tryz.prog 97) 1) HMxB :=
  loopH_ok follows T_ok hK2 hS2 loNat_none (loopsOK_none _) tmMxB extMxB_ok stepMxB
noncomputable def LoMx : Nat → LC := atN 0 [(3, HMxA), (11, HMxB)]
theorem LoMx_ok : LoopsC Tryz.prog T 97 LoMx := loopsC_at 0 (List.forall_mem_cons.2 ⟨HMxA_ok.1, List.forall_mem_cons.2 ⟨HMxB_ok.1, fun _ h => by cases h⟩⟩) 2 (by kernel_rfl) ⟨⟨trivial, loI (s0 := HMxA) (by kernel_rfl) HMxA_ok⟩, loI (s0 := HMxB) (by kernel_rfl) HMxB_ok⟩
noncomputable def Gmx : FC := fun R xs k => match xs with
  | [s, b] => bif Nat.ble 64 b.els.length then lpC (BMxA R) (hid FU) (.m s z8 (spW b) keysV s 0) (fun | .o s z _ _ x _ => lpC (BMxB R) (hid FU) (.m s z x 0) (fun | .o s _ _ _ => k [.d 178 s])) else none
  | _ => none
theorem run_mx (R : Type) (s b : V) (k : List Rs → Option R) : runFC Tryz.prog T K2 LoMx false FU 97 R (mkAs T [178, 47] [s, b]) (fun _ => none) 0 (fun out => ob (resC T false [.d 178] out) k) = Gmx R [s, b] k := by kernel_rfl
noncomputable def tab3 : List (Nat × SymC) := (97, pureS T false [178, 47] (Fmx 178)) :: tab2
theorem tab3_ok : TabOK Tryz.prog T tab3 := by
  refine pure_run (sh := false) (rk := [.d 178]) (d := 4) (fu := FU) (Lo := LoMx) (G := Gmx) follows T_ok tab2_ok (Fmx_nat 178) (by kernel_rfl) LoMx_ok (fun R xs k htv => ?_) (fun xs rs htv hrs => ?_)
  · match xs, htv.len with
    | [s, b], _ => exact run_mx R s b k
  · match xs, htv, htv.len with
    | [s, b], htv, _ =>
      obtain ⟨e, cs, hs⟩ := htv.head
      obtain ⟨e2, cs2, hx⟩ := htv.tail.head
      obtain ⟨bs, h1, h2⟩ := tv_slice (T := T) (el := 5) (kd := .u8) (by kernel_rfl) (by kernel_rfl) rfl hx
      obtain ⟨ns, rfl, n1, n2⟩ := tv_arr (T := T) (n := 8) (el := 25) (kd := .u32) (by kernel_rfl) (by kernel_rfl) rfl hs
      obtain ⟨s8, hs8, hok⟩ := stV_of n1 n2
      rw [hs8] at hrs ⊢
      simp only [Fmx] at hrs
      cases hl : Nat.ble 64 b.els.length with
      | false => rw [hl] at hrs; cases hrs
      | true =>
        rw [hl] at hrs
        simp only [Gmx, hl, cond_true]
        have hl := Nat.le_of_ble_eq_true hl
        rw [h1, List.length_map] at hl
        exact (mix_law hok h1 (lt256 h2) hl HID (fun w => some [Rs.d 178 w])).trans hrs
noncomputable def K3 : KC := runAC Tryz.prog T tab3 false FU 4
theorem hK3 : K3.nat := runAC_nat tab3_ok 4
theorem hS3 : ∀ f, SymOK Tryz.prog T f (K3 f).dir := runAC_ok follows T_ok tab3_ok 4
end Go.Proofs.YtbalmjokchcfiaaGreat

namespace Go.Proofs.YtbalmjokchcfiaaGreat
open Go.Vm
set_option maxRecDepth 100000
set_option linter.unusedVariables false
noncomputable def tabZ : List (Nat × Sym) := [(97, (pureS T false [178, 47] (seeF (Fmx 178))).dir), (151, carry64), (152, borrow64)]
theorem tabZ_ok : AllS Tryz.prog T tabZ := ⟨TabOK.see (TabOK.at tab3_ok (by kernel_rfl)), carry64_ok Tryz.func151 (by kernel_rfl) (by kernel_rfl) (by kernel_rfl) (by kernel_rfl), borrow64_ok Tryz.func152 (by kernel_rfl) (by kernel_rfl) (by kernel_rfl) (by kernel_rfl), trivial⟩
theorem law_run : ansB true (runZ Tryz.prog T tabZ 100000 60 3 [] (fun _ => none) 0) = true := by kernel_rfl
end Go.Proofs.YtbalmjokchcfiaaGreat
end

/- What functions compute, and the law run. -/
import Derived.Test.YtkaobamodajniaaGreatTy
import Derived.Test.YtkaobamodajniaaGreatVm10
import Derived.Test.YtkaobamodajniaaGreatVm12
import Derived.Test.YtkaobamodajniaaGreatVm11
set_option linter.constructorNameAsVariable false
set_option linter.unusedVariables false
set_option linter.unusedSimpArgs false
noncomputable section
namespace Go.Proofs.YtkaobamodajniaaGreat
open Go.Vm
set_option maxRecDepth 100000
set_option linter.unusedVariables false
noncomputable def tab1 : List (Nat × SymC) := []
theorem tab1_ok : TabOK Tryz.prog T tab1 := tabOK_nil
noncomputable def K1 : KC := runAC Tryz.prog T tab1 false FU 4
theorem hK1 : K1.nat := runAC_nat tab1_ok 4
theorem hS1 : KOK Tryz.prog T K1.dir := runAC_ok follows T_ok tab1_ok 4
def tmSpA : PSpA → Vm.St
  | .m x z i w => ⟨[(0, .v 23 x), (2, .p 0 200 []), (3, .p 1 200 []), (8, .i .i64 i)], (.n (some (.box 200 (.v 200 z) false)) (.n (some (.box 200 (.v 200 w) false)) .e .e) .e), [], 2, some []⟩
def ekSpA (R : Type) (kx : Exit → Vm.St → Option R) : QSpA → Option R
  | .o x z i w => kx (.exit 0) ⟨[(0, .v 23 x), (2, .p 0 200 []), (3, .p 1 200 []), (8, .i .i64 i)], (.n (some (.box 200 (.v 200 z) false)) (.n (some (.box 200 (.v 200 w) false)) .e .e) .e), [], 16, some []⟩
def extSpA : Vm.St → Option PSpA
  | ⟨[(0, .v 23 x), (2, .p 0 200 []), (3, .p 1 200 []), (8, .i .i64 i)], (.n (some (.box 200 (.v 200 z) false)) (.n (some (.box 200 (.v 200 w) false)) .e .e) .e), [], 2, some []⟩ => some (.m x z i w)
  | _ => none
theorem extSpA_ok (τ : Vm.St) (x : PSpA) (h : extSpA τ = some x) : τ = tmSpA x := by
  unfold extSpA at h
  split at h <;> first | (cases h; rfl) | cases h
theorem stepSpA (R : Type) (of : Nat → Option Ob) (x : PSpA) (K : Vm.St → Option R) (kx : Exit → Vm.St → Option R) : execC T K1 (fun _ => none) false FU (ntOf Tryz.prog 122) of R (lp (codeOf Tryz.prog 122) 0) (tmSpA x) (sortN 0 [0, 2, 3, 8] 16 K kx) = BSpA R x (fun x' => K (tmSpA x')) (ekSpA R kx) := by
  cases x
  · kernel_rfl
noncomputable def HSpA : LS := loopH T K1 (fun _ => none) (ntOf Tryz.prog 122) (lp (codeOf Tryz.prog 122) 0) 0 [0, 2, 3, 8] 16 extSpA BSpA ekSpA
theorem HSpA_ok : LoopTk Tryz.prog T (ntOf Tryz.prog 122) 0 (lp (codeOf Tryz.prog 122) 0) HSpA :=
  loopH_ok follows T_ok hK1 hS1 loNat_none (loopsOK_none _) tmSpA extSpA_ok stepSpA
def tmSpB : PSpB → Vm.St
  | .m z i w => ⟨[(2, .p 0 200 []), (3, .p 1 200 []), (5, .i .i64 i)], (.n (some (.box 200 (.v 200 z) false)) (.n (some (.box 200 (.v 200 w) false)) .e .e) .e), [], 2, some []⟩
def ekSpB (R : Type) (kx : Exit → Vm.St → Option R) : QSpB → Option R
  | .o z i w => kx (.exit 2) ⟨[(2, .p 0 200 []), (3, .p 1 200 []), (5, .i .i64 i)], (.n (some (.box 200 (.v 200 z) false)) (.n (some (.box 200 (.v 200 w) false)) .e .e) .e), [], 16, some []⟩
def extSpB : Vm.St → Option PSpB
  | ⟨[(2, .p 0 200 []), (3, .p 1 200 []), (5, .i .i64 i)], (.n (some (.box 200 (.v 200 z) false)) (.n (some (.box 200 (.v 200 w) false)) .e .e) .e), [], 2, some []⟩ => some (.m z i w)
  | _ => none
theorem extSpB_ok (τ : Vm.St) (x : PSpB) (h : extSpB τ = some x) : τ = tmSpB x := by
  unfold extSpB at h
  split at h <;> first | (cases h; rfl) | cases h
theorem stepSpB (R : Type) (of : Nat → Option Ob) (x : PSpB) (K : Vm.St → Option R) (kx : Exit → Vm.St → Option R) : execC T K1 (fun _ => none) false FU (ntOf Tryz.prog 122) of R (lp (codeOf Tryz.prog 122) 1) (tmSpB x) (sortN 0 [2, 3, 5] 16 K kx) = BSpB R x (fun x' => K (tmSpB x')) (ekSpB R kx) := by
  cases x
  · kernel_rfl
noncomputable def HSpB : LS := loopH T K1 (fun _ => none) (ntOf Tryz.prog 122) (lp (codeOf Tryz.prog 122) 1) 0 [2, 3, 5] 16 extSpB BSpB ekSpB
theorem HSpB_ok : LoopTk Tryz.prog T (ntOf Tryz.prog 122) 0 (lp (codeOf Tryz.prog 122) 1) HSpB :=
  loopH_ok follows T_ok hK1 hS1 loNat_none (loopsOK_none _) tmSpB extSpB_ok stepSpB
noncomputable def LoSp : Nat → LC := atN 0 [(3, HSpA), (8, HSpB)]
theorem LoSp_ok : LoopsC Tryz.prog T 122 LoSp := loopsC_at 0 (List.forall_mem_cons.2 ⟨HSpA_ok.1, List.forall_mem_cons.2 ⟨HSpB_ok.1, fun _ h => by cases h⟩⟩) 2 (by kernel_rfl) ⟨⟨trivial, loI (s0 := HSpA) (by kernel_rfl) HSpA_ok⟩, loI (s0 := HSpB) (by kernel_rfl) HSpB_ok⟩
noncomputable def Gsp : FC := fun R xs k => match xs with
  | [x] => lpC (BSpA R) (hid FU) (.m x z64 0 z64) (fun | .o _ z _ w => lpC (BSpB R) (hid FU) (.m z 16 w) (fun | .o _ _ w => k [.d 200 w]))
  | _ => none
theorem run_sp (R : Type) (x : V) (k : List Rs → Option R) : runFC Tryz.prog T K1 LoSp false FU 122 R (mkAs T [23] [x]) (fun _ => none) 0 (fun out => ob (resC T false [.d 200] out) k) = Gsp R [x] k := by kernel_rfl
noncomputable def tab2 : List (Nat × SymC) := (122, pureS T false [23] (Fsp 200)) :: tab1
theorem tab2_ok : TabOK Tryz.prog T tab2 := by
  refine pure_run (sh := false) (rk := [.d 200]) (d := 4) (fu := FU) (Lo := LoSp) (G := Gsp) follows T_ok tab1_ok (Fsp_nat 200) (by kernel_rfl) LoSp_ok (fun R xs k htv => ?_) (fun xs rs htv hrs => ?_)
  · match xs, htv.len with
    | [x], _ => exact run_sp R x k
  · match xs, htv, htv.len with
    | [x], htv, _ =>
      obtain ⟨e, cs, hx⟩ := htv.head
      obtain ⟨bs, h1, h2⟩ := tv_slice (T := T) (el := 5) (kd := .u8) (by kernel_rfl) (by kernel_rfl) rfl hx
      simp only [Fsp] at hrs
      cases hl : Nat.ble 64 x.els.length with
      | false => rw [hl] at hrs; cases hrs
      | true =>
        rw [hl] at hrs
        have hl := Nat.le_of_ble_eq_true hl
        rw [h1, List.length_map] at hl
        exact (spread_law h1 (lt256 h2) hl HID (fun w => some [Rs.d 200 w])).trans hrs
noncomputable def K2 : KC := runAC Tryz.prog T tab2 false FU 4
theorem hK2 : K2.nat := runAC_nat tab2_ok 4
theorem hS2 : KOK Tryz.prog T K2.dir := runAC_ok follows T_ok tab2_ok 4
def tmMxA : PMxA → Vm.St
  | .m s z w k x i => ⟨[(2, .p 0 191 []), (4, .p 1 191 []), (5, .p 3 200 []), (6, .p 4 200 []), (7, .p 5 191 []), (18, .i .i64 i)], (.n (some (.box 191 (.v 191 s) false)) (.n (some (.box 191 (.v 191 z) false)) (.n (some (.box 200 (.v 200 w) false)) .e .e) (.n (some (.box 191 (.v 191 x) false)) .e .e)) (.n none (.n (some (.box 200 (.v 200 k) false)) .e .e) .e)), [], 6, some []⟩
def ekMxA (R : Type) (kx : Exit → Vm.St → Option R) : QMxA → Option R
  | .o s z w k x i => kx (.exit 0) ⟨[(2, .p 0 191 []), (4, .p 1 191 []), (5, .p 3 200 []), (6, .p 4 200 []), (7, .p 5 191 []), (18, .i .i64 i)], (.n (some (.box 191 (.v 191 s) false)) (.n (some (.box 191 (.v 191 z) false)) (.n (some (.box 200 (.v 200 w) false)) .e .e) (.n (some (.box 191 (.v 191 x) false)) .e .e)) (.n none (.n (some (.box 200 (.v 200 k) false)) .e .e) .e)), [], 16, some []⟩
def extMxA : Vm.St → Option PMxA
  | ⟨[(2, .p 0 191 []), (4, .p 1 191 []), (5, .p 3 200 []), (6, .p 4 200 []), (7, .p 5 191 []), (18, .i .i64 i)], (.n (some (.box 191 (.v 191 s) false)) (.n (some (.box 191 (.v 191 z) false)) (.n (some (.box 200 (.v 200 w) false)) .e .e) (.n (some (.box 191 (.v 191 x) false)) .e .e)) (.n none (.n (some (.box 200 (.v 200 k) false)) .e .e) .e)), [], 6, some []⟩ => some (.m s z w k x i)
  | _ => none
theorem extMxA_ok (τ : Vm.St) (x : PMxA) (h : extMxA τ = some x) : τ = tmMxA x := by
  unfold extMxA at h
  split at h <;> first | (cases h; rfl) | cases h
theorem stepMxA (R : Type) (of : Nat → Option Ob) (x : PMxA) (K : Vm.St → Option R) (kx : Exit → Vm.St → Option R) : execC T K2 (fun _ => none) false FU (ntOf Tryz.prog 115) of R (lp (codeOf Tryz.prog 115) 0) (tmMxA x) (sortN 0 [2, 4, 5, 6, 7, 18] 16 K kx) = BMxA R x (fun x' => K (tmMxA x')) (ekMxA R kx) := by
  cases x
  · kernel_rfl
noncomputable def HMxA : LS := loopH T K2 (fun _ => none) (ntOf Tryz.prog 115) (lp (codeOf Tryz.prog 115) 0) 0 [2, 4, 5, 6, 7, 18] 16 extMxA BMxA ekMxA
theorem HMxA_ok : LoopTk Tryz.prog T (ntOf Tryz.prog 115) 0 (lp (codeOf Tryz.prog 115) 0) HMxA :=
  loopH_ok follows T_ok hK2 hS2 loNat_none (loopsOK_none _) tmMxA extMxA_ok stepMxA
def tmMxB : PMxB → Vm.St
  | .m s z x i => ⟨[(2, .p 0 191 []), (4, .p 1 191 []), (7, .p 5 191 []), (98, .i .i64 i)], (.n (some (.box 191 (.v 191 s) false)) (.n (some (.box 191 (.v 191 z) false)) .e (.n (some (.box 191 (.v 191 x) false)) .e .e)) .e), [], 6, some []⟩
def ekMxB (R : Type) (kx : Exit → Vm.St → Option R) : QMxB → Option R
  | .o s z x i => kx (.exit 2) ⟨[(2, .p 0 191 []), (4, .p 1 191 []), (7, .p 5 191 []), (98, .i .i64 i)], (.n (some (.box 191 (.v 191 s) false)) (.n (some (.box 191 (.v 191 z) false)) .e (.n (some (.box 191 (.v 191 x) false)) .e .e)) .e), [], 16, some []⟩
def extMxB : Vm.St → Option PMxB
  | ⟨[(2, .p 0 191 []), (4, .p 1 191 []), (7, .p 5 191 []), (98, .i .i64 i)], (.n (some (.box 191 (.v 191 s) false)) (.n (some (.box 191 (.v 191 z) false)) .e (.n (some (.box 191 (.v 191 x) false)) .e .e)) .e), [], 6, some []⟩ => some (.m s z x i)
  | _ => none
theorem extMxB_ok (τ : Vm.St) (x : PMxB) (h : extMxB τ = some x) : τ = tmMxB x := by
  unfold extMxB at h
  split at h <;> first | (cases h; rfl) | cases h
theorem stepMxB (R : Type) (of : Nat → Option Ob) (x : PMxB) (K : Vm.St → Option R) (kx : Exit → Vm.St → Option R) : execC T K2 (fun _ => none) false FU (ntOf Tryz.prog 115) of R (lp (codeOf Tryz.prog 115) 1) (tmMxB x) (sortN 0 [2, 4, 7, 98] 16 K kx) = BMxB R x (fun x' => K (tmMxB x')) (ekMxB R kx) := by
  cases x
  · kernel_rfl
noncomputable def HMxB : LS := loopH T K2 (fun _ => none) (ntOf Tryz.prog 115) (lp (codeOf Tryz.prog 115) 1) 0 [2, 4, 7, 98] 16 extMxB BMxB ekMxB
theorem HMxB_ok : LoopTk Tryz.prog T (ntOf Tryz.prog 115) 0 (lp (codeOf Tryz.prog 115) 1) HMxB :=
  loopH_ok follows T_ok hK2 hS2 loNat_none (loopsOK_none _) tmMxB extMxB_ok stepMxB
noncomputable def LoMx : Nat → LC := atN 0 [(3, HMxA), (11, HMxB)]
theorem LoMx_ok : LoopsC Tryz.prog T 115 LoMx := loopsC_at 0 (List.forall_mem_cons.2 ⟨HMxA_ok.1, List.forall_mem_cons.2 ⟨HMxB_ok.1, fun _ h => by cases h⟩⟩) 2 (by kernel_rfl) ⟨⟨trivial, loI (s0 := HMxA) (by kernel_rfl) HMxA_ok⟩, loI (s0 := HMxB) (by kernel_rfl) HMxB_ok⟩
noncomputable def Gmx : FC := fun R xs k => match xs with
  | [s, b] => bif Nat.ble 64 b.els.length then lpC (BMxA R) (hid FU) (.m s z8 (spW b) keysV s 0) (fun | .o s z _ _ x _ => lpC (BMxB R) (hid FU) (.m s z x 0) (fun | .o s _ _ _ => k [.d 191 s])) else none
  | _ => none
theorem run_mx (R : Type) (s b : V) (k : List Rs → Option R) : runFC Tryz.prog T K2 LoMx false FU 115 R (mkAs T [191, 23] [s, b]) (fun _ => none) 0 (fun out => ob (resC T false [.d 191] out) k) = Gmx R [s, b] k := by kernel_rfl
noncomputable def tab3 : List (Nat × SymC) := (115, pureS T false [191, 23] (Fmx 191)) :: tab2
theorem tab3_ok : TabOK Tryz.prog T tab3 := by
  refine pure_run (sh := false) (rk := [.d 191]) (d := 4) (fu := FU) (Lo := LoMx) (G := Gmx) follows T_ok tab2_ok (Fmx_nat 191) (by kernel_rfl) LoMx_ok (fun R xs k htv => ?_) (fun xs rs htv hrs => ?_)
  · match xs, htv.len with
    | [s, b], _ => exact run_mx R s b k
  · match xs, htv, htv.len with
    | [s, b], htv, _ =>
      obtain ⟨e, cs, hs⟩ := htv.head
      obtain ⟨e2, cs2, hx⟩ := htv.tail.head
      obtain ⟨bs, h1, h2⟩ := tv_slice (T := T) (el := 5) (kd := .u8) (by kernel_rfl) (by kernel_rfl) rfl hx
      obtain ⟨ns, rfl, n1, n2⟩ := tv_arr (T := T) (n := 8) (el := 31) (kd := .u32) (by kernel_rfl) (by kernel_rfl) rfl hs
      obtain ⟨s8, hs8, hok⟩ := stV_of n1 n2
      rw [hs8] at hrs ⊢
      simp only [Fmx] at hrs
      cases hl : Nat.ble 64 b.els.length with
      | false => rw [hl] at hrs; cases hrs
      | true =>
        rw [hl] at hrs
        simp only [Gmx, hl, cond_true]
        have hl := Nat.le_of_ble_eq_true hl
        rw [h1, List.length_map] at hl
        exact (mix_law hok h1 (lt256 h2) hl HID (fun w => some [Rs.d 191 w])).trans hrs
noncomputable def K3 : KC := runAC Tryz.prog T tab3 false FU 4
theorem hK3 : K3.nat := runAC_nat tab3_ok 4
theorem hS3 : KOK Tryz.prog T K3.dir := runAC_ok follows T_ok tab3_ok 4
end Go.Proofs.YtkaobamodajniaaGreat

namespace Go.Proofs.YtkaobamodajniaaGreat
open Go.Vm
set_option maxRecDepth 100000
set_option linter.unusedVariables false
set_option linter.constructorNameAsVariable false
theorem run_wf8 (bs : List V) (n : Int) : runFC Tryz.prog T K3 (fun _ _ => none) false FU 31 (List Rs) (mkAs T [23, 68, 3] [.l bs, .i n, .i 8]) (fun _ => none) 0 (fun out => resC T true [.r 5] out) = (lim (0 + bs.length) <| pFix 8 n bs (fun xs => some [.r 5 xs false])) := by kernel_rfl
theorem run_wf8N (n : Int) : runFC Tryz.prog T K3 (fun _ _ => none) false FU 31 (List Rs) (mkAs T [23, 68, 3] [.n, .i n, .i 8]) (fun _ => none) 0 (fun out => resC T true [.r 5] out) = some [.r 5 (leV 8 n) false] := by kernel_rfl
theorem run_wf4 (bs : List V) (n : Int) : runFC Tryz.prog T K3 (fun _ _ => none) false FU 31 (List Rs) (mkAs T [23, 68, 3] [.l bs, .i n, .i 4]) (fun _ => none) 0 (fun out => resC T true [.r 5] out) = (lim (0 + bs.length) <| pFix 4 n bs (fun xs => some [.r 5 xs false])) := by kernel_rfl
theorem run_wf4N (n : Int) : runFC Tryz.prog T K3 (fun _ _ => none) false FU 31 (List Rs) (mkAs T [23, 68, 3] [.n, .i n, .i 4]) (fun _ => none) 0 (fun out => resC T true [.r 5] out) = some [.r 5 (leV 4 n) false] := by kernel_rfl
noncomputable def tab4 : List (Nat × SymC) := (31, pureS T true [23, 68, 3] (gF wFixg (wFixr 5))) :: tab3
theorem tab4_ok : TabOK Tryz.prog T tab4 := by
  refine pure_conG (sh := true) (rk := [.r 5]) (d := 4) (fu := FU) (Lo := (fun _ _ => none)) (ds := [.slice (.int .u8), .int .u64, .int .i64]) follows T_ok tab3_ok (by kernel_rfl) loopsC_none 8 (by kernel_rfl) (fun xs hd hg => ?_)
  obtain ⟨a, b, c, rfl, ha, hb, hc⟩ := hasL3 hd
  obtain ⟨n, rfl, _⟩ := hb
  obtain ⟨s, rfl, _⟩ := hc
  obtain ⟨hs, hg⟩ := wFix_at hg
  rcases hs with rfl | rfl
  ·
    · rcases bytes_v ha with rfl | ⟨ys, rfl⟩
      · rw [wFixr_8]; exact run_wf8N n
      · rw [wFixr_8]
        have hl : ys.length ≤ 268435456 := shb_le hg
        refine (run_wf8 ys n).trans ?_
        rw [lim_in (by omega), pFix_law _ _ _ _ (by show ys.length + 8 ≤ 1073741824; omega)]; rfl
  ·
    · rcases bytes_v ha with rfl | ⟨ys, rfl⟩
      · rw [wFixr_4]; exact run_wf4N n
      · rw [wFixr_4]
        have hl : ys.length ≤ 268435456 := shb_le hg
        refine (run_wf4 ys n).trans ?_
        rw [lim_in (by omega), pFix_law _ _ _ _ (by show ys.length + 4 ≤ 1073741824; omega)]; rfl
noncomputable def K4 : KC := runAC Tryz.prog T tab4 false FU 4
theorem hK4 : K4.nat := runAC_nat tab4_ok 4
theorem hS4 : KOK Tryz.prog T K4.dir := runAC_ok follows T_ok tab4_ok 4
theorem run_wt (bs xs : List V) : runFC Tryz.prog T K4 (fun _ _ => none) false FU 32 (List Rs) (mkAs T [23, 112] [.l bs, .l [.l xs]]) (fun _ => none) 0 (fun out => resC T true [.r 5] out) = (lim (0 + bs.length) <| txt1 bs xs (fun ys => some [.r 5 ys false])) := by kernel_rfl
theorem run_wt0 (bs : List V) : runFC Tryz.prog T K4 (fun _ _ => none) false FU 32 (List Rs) (mkAs T [23, 112] [.l bs, .l [.n]]) (fun _ => none) 0 (fun out => resC T true [.r 5] out) = (lim (0 + bs.length) <| txt1 bs [] (fun ys => some [.r 5 ys false])) := by kernel_rfl
theorem run_wtN (xs : List V) : runFC Tryz.prog T K4 (fun _ _ => none) false FU 32 (List Rs) (mkAs T [23, 112] [.n, .l [.l xs]]) (fun _ => none) 0 (fun out => resC T true [.r 5] out) = (txt1 [] xs (fun ys => some [.r 5 ys false])) := by kernel_rfl
theorem run_wtN0  : runFC Tryz.prog T K4 (fun _ _ => none) false FU 32 (List Rs) (mkAs T [23, 112] [.n, .l [.n]]) (fun _ => none) 0 (fun out => resC T true [.r 5] out) = (txt1 [] [] (fun ys => some [.r 5 ys false])) := by kernel_rfl
noncomputable def tab5 : List (Nat × SymC) := (32, pureS T true [23, 112] (gF wTxtg (wTxtr 5))) :: tab4
theorem tab5_ok : TabOK Tryz.prog T tab5 := by
  refine pure_conG (sh := true) (rk := [.r 5]) (d := 4) (fu := FU) (Lo := (fun _ _ => none)) (ds := [.slice (.int .u8), .slice (.slice (.int .u8))]) follows T_ok tab4_ok (by kernel_rfl) loopsC_none 8 (by kernel_rfl) (fun xs hd hg => ?_)
  obtain ⟨a, b, rfl, ha, hb⟩ := hasL2 hd
  rcases hb with rfl | ⟨l, rfl, hl⟩
  · exact absurd (show false = true from hg) (by decide)
  match l, hl, hg with
  | [x], hl, hg =>
    have hg := (Bool.and_eq_true _ _).mp (show (shb a && shb x) = true from hg)
    rcases bytes_v ha with rfl | ⟨ys, rfl⟩ <;> rcases bytes_v (hl x (List.mem_singleton.2 rfl)) with rfl | ⟨zs, rfl⟩
    · exact (run_wtN0).trans (txt1_law (by simp) (by simp))
    ·
      have hl2 : zs.length ≤ 268435456 := shb_le hg.2
      refine (run_wtN zs).trans ?_
      rw [txt1_law (by simp) (by omega)]; rfl
    ·
      have hl1 : ys.length ≤ 268435456 := shb_le hg.1
      refine (run_wt0 ys ).trans ?_
      rw [lim_in (by omega), txt1_law (by omega) (by simp)]; rfl
    ·
      have hl1 : ys.length ≤ 268435456 := shb_le hg.1
      have hl2 : zs.length ≤ 268435456 := shb_le hg.2
      refine (run_wt ys zs).trans ?_
      rw [lim_in (by omega), txt1_law (by omega) (by omega)]; rfl
noncomputable def K5 : KC := runAC Tryz.prog T tab5 false FU 4
theorem hK5 : K5.nat := runAC_nat tab5_ok 4
theorem hS5 : KOK Tryz.prog T K5.dir := runAC_ok follows T_ok tab5_ok 4
theorem run_wcN (n : Int) : runFC Tryz.prog T K5 (fun _ _ => none) false FU 30 (List Rs) (mkAs T [23, 68] [.n, .i n]) (fun _ => none) 0 (fun out => resC T true [.r 5] out) = cntC n [] (fun ys => some [.r 5 ys false]) := by kernel_rfl
noncomputable def tab6 : List (Nat × SymC) := (30, pureS T true [23, 68] (gF wCntg (wCntr 5))) :: tab5
theorem tab6_ok : TabOK Tryz.prog T tab6 := by
  refine pure_conG (sh := true) (rk := [.r 5]) (d := 4) (fu := FU) (Lo := (fun _ _ => none)) (ds := [.slice (.int .u8), .int .u64]) follows T_ok tab5_ok (by kernel_rfl) loopsC_none 8 (by kernel_rfl) (fun xs hd hg => ?_)
  obtain ⟨a, b, rfl, ha, hb⟩ := hasL2 hd
  obtain ⟨n, rfl, _⟩ := hb
  rcases bytes_v ha with rfl | ⟨ys, rfl⟩
  · refine (run_wcN n).trans ?_
    rw [cntC_law (by simp)]; rfl
  · cases hg
noncomputable def K6 : KC := runAC Tryz.prog T tab6 false FU 4
theorem hK6 : K6.nat := runAC_nat tab6_ok 4
theorem hS6 : KOK Tryz.prog T K6.dir := runAC_ok follows T_ok tab6_ok 4
theorem run_wr (hs : List V) (n : Int) : runFC Tryz.prog T K6 (fun _ _ => none) false FU 33 (List Rs) (mkAs T [33] [.l [.l hs, .i n]]) (fun _ => none) 0 (fun out => resC T true [.r 5] out) = bif shb (.l ((hs.drop 0).take 32)) then some [.r 5 ((hs.drop 0).take 32 ++ leV 4 (WU n)) false] else none := by kernel_rfl
noncomputable def tab7 : List (Nat × SymC) := (33, pureS T true [33] (gF wRefg (wRefr 5))) :: tab6
theorem tab7_ok : TabOK Tryz.prog T tab7 := by
  refine pure_conG (sh := true) (rk := [.r 5]) (d := 4) (fu := FU) (Lo := (fun _ _ => none)) (ds := [.struct [.arr 32 (.int .u8), .int .u32]]) follows T_ok tab6_ok (by kernel_rfl) loopsC_none 8 (by kernel_rfl) (fun xs hd hg => ?_)
  obtain ⟨a, rfl, ha⟩ := hasL1 hd
  obtain ⟨hs, n, rfl, hl, h1, h2⟩ := ref_v ha
  obtain ⟨m, rfl⟩ := Int.eq_ofNat_of_zero_le h1
  refine (run_wr hs _).trans ?_
  rw [show (hs.drop 0).take 32 = hs from List.take_of_length_le (by simp; omega), wu64_lt (by omega), show shb (.l hs) = true from Nat.ble_eq_true_of_le (by show hs.length ≤ 268435456; omega)]; rfl
noncomputable def K7 : KC := runAC Tryz.prog T tab7 false FU 4
theorem hK7 : K7.nat := runAC_nat tab7_ok 4
theorem hS7 : KOK Tryz.prog T K7.dir := runAC_ok follows T_ok tab7_ok 4
theorem run_dc (n : Int) : runFC Tryz.prog T K7 (fun _ _ => none) false FU 26 (List Rs) (mkAs T [68] [.i n]) (fun _ => none) 0 (fun out => resC T true [.r 5] out) = cntD n (fun ys => some [.r 5 ys false]) := by kernel_rfl
noncomputable def tab8 : List (Nat × SymC) := (26, pureS T true [68] (gF dCntg (dCntr 5))) :: tab7
theorem tab8_ok : TabOK Tryz.prog T tab8 := by
  refine pure_conG (sh := true) (rk := [.r 5]) (d := 4) (fu := FU) (Lo := (fun _ _ => none)) (ds := [.int .u64]) follows T_ok tab7_ok (by kernel_rfl) loopsC_none 8 (by kernel_rfl) (fun xs hd hg => ?_)
  obtain ⟨a, rfl, ha⟩ := hasL1 hd
  obtain ⟨n, rfl, h1, h2⟩ := ha
  simp only [lo, hi] at h1 h2
  refine (run_dc n).trans ?_
  rw [cntD_law h1 (by omega)]; rfl
noncomputable def K8 : KC := runAC Tryz.prog T tab8 false FU 4
theorem hK8 : K8.nat := runAC_nat tab8_ok 4
theorem hS8 : KOK Tryz.prog T K8.dir := runAC_ok follows T_ok tab8_ok 4
theorem run_dt (xs : List V) : runFC Tryz.prog T K8 (fun _ _ => none) false FU 27 (List Rs) (mkAs T [23] [.l xs]) (fun _ => none) 0 (fun out => resC T true [.r 5] out) = (ln xs.length <| lim ((cntL (WU (xs.length : Nat))).length + xs.length) <| some [.r 5 (cntL (WU (xs.length : Nat)) ++ xs) false]) := by kernel_rfl
theorem run_dtN  : runFC Tryz.prog T K8 (fun _ _ => none) false FU 27 (List Rs) (mkAs T [23] [.n]) (fun _ => none) 0 (fun out => resC T true [.r 5] out) = some [.r 5 (txtL []) false] := by kernel_rfl
noncomputable def tab9 : List (Nat × SymC) := (27, pureS T true [23] (gF dTxtg (dTxtr 5))) :: tab8
theorem tab9_ok : TabOK Tryz.prog T tab9 := by
  refine pure_conG (sh := true) (rk := [.r 5]) (d := 4) (fu := FU) (Lo := (fun _ _ => none)) (ds := [.slice (.int .u8)]) follows T_ok tab8_ok (by kernel_rfl) loopsC_none 8 (by kernel_rfl) (fun xs hd hg => ?_)
  obtain ⟨a, rfl, ha⟩ := hasL1 hd
  rcases bytes_v ha with rfl | ⟨ys, rfl⟩
  · exact run_dtN
  · have hl : ys.length ≤ 268435456 := shb_le hg
    have hc := cntL_len (ys.length : Nat)
    refine (run_dt ys).trans ?_
    rw [ln_in (by omega), wu64_lt (by omega), lim_in (by omega)]; rfl
noncomputable def K9 : KC := runAC Tryz.prog T tab9 false FU 4
theorem hK9 : K9.nat := runAC_nat tab9_ok 4
theorem hS9 : KOK Tryz.prog T K9.dir := runAC_ok follows T_ok tab9_ok 4
theorem run_df8 (n : Int) : runFC Tryz.prog T K9 (fun _ _ => none) false FU 28 (List Rs) (mkAs T [68, 3] [.i n, .i 8]) (fun _ => none) 0 (fun out => resC T true [.r 5] out) = some [.r 5 (leD 8 n) false] := by kernel_rfl
theorem run_df4 (n : Int) : runFC Tryz.prog T K9 (fun _ _ => none) false FU 28 (List Rs) (mkAs T [68, 3] [.i n, .i 4]) (fun _ => none) 0 (fun out => resC T true [.r 5] out) = some [.r 5 (leD 4 n) false] := by kernel_rfl
noncomputable def tab10 : List (Nat × SymC) := (28, pureS T true [68, 3] (gF dFixg (dFixr 5))) :: tab9
theorem tab10_ok : TabOK Tryz.prog T tab10 := by
  refine pure_conG (sh := true) (rk := [.r 5]) (d := 4) (fu := FU) (Lo := (fun _ _ => none)) (ds := [.int .u64, .int .i64]) follows T_ok tab9_ok (by kernel_rfl) loopsC_none 8 (by kernel_rfl) (fun xs hd hg => ?_)
  obtain ⟨a, b, rfl, ha, hb⟩ := hasL2 hd
  obtain ⟨n, rfl, h1, h2⟩ := ha
  obtain ⟨s, rfl, _⟩ := hb
  simp only [lo, hi] at h1 h2
  rcases dFix_at hg with rfl | rfl
  · rw [dFixr_8]
    refine (run_df8 n).trans ?_
    rw [leD_leV 8 h1 (by omega)]
  · rw [dFixr_4]
    refine (run_df4 n).trans ?_
    rw [leD_leV 4 h1 (by omega)]
noncomputable def K10 : KC := runAC Tryz.prog T tab10 false FU 4
theorem hK10 : K10.nat := runAC_nat tab10_ok 4
theorem hS10 : KOK Tryz.prog T K10.dir := runAC_ok follows T_ok tab10_ok 4
theorem run_dr (hs : List V) (n : Int) : runFC Tryz.prog T K10 (fun _ _ => none) false FU 29 (List Rs) (mkAs T [33] [.l [.l hs, .i n]]) (fun _ => none) 0 (fun out => resC T true [.r 5] out) = (lim (0 + ((hs.drop 0).take 32).length) <| lim (((hs.drop 0).take 32).length + 4) <| some [.r 5 ((hs.drop 0).take 32 ++ leV 4 (WU n)) false]) := by kernel_rfl
noncomputable def tab11 : List (Nat × SymC) := (29, pureS T true [33] (gF wRefg (wRefr 5))) :: tab10
theorem tab11_ok : TabOK Tryz.prog T tab11 := by
  refine pure_conG (sh := true) (rk := [.r 5]) (d := 4) (fu := FU) (Lo := (fun _ _ => none)) (ds := [.struct [.arr 32 (.int .u8), .int .u32]]) follows T_ok tab10_ok (by kernel_rfl) loopsC_none 8 (by kernel_rfl) (fun xs hd hg => ?_)
  obtain ⟨a, rfl, ha⟩ := hasL1 hd
  obtain ⟨hs, n, rfl, hl, h1, h2⟩ := ref_v ha
  obtain ⟨m, rfl⟩ := Int.eq_ofNat_of_zero_le h1
  refine (run_dr hs _).trans ?_
  rw [show (hs.drop 0).take 32 = hs from List.take_of_length_le (by simp; omega), wu64_lt (by omega), lim_in (by omega), lim_in (by omega)]; rfl
noncomputable def K11 : KC := runAC Tryz.prog T tab11 false FU 4
theorem hK11 : K11.nat := runAC_nat tab11_ok 4
theorem hS11 : KOK Tryz.prog T K11.dir := runAC_ok follows T_ok tab11_ok 4
end Go.Proofs.YtkaobamodajniaaGreat

namespace Go.Proofs.YtkaobamodajniaaGreat
open Go.Vm
set_option maxRecDepth 100000
set_option linter.unusedVariables false
set_option linter.constructorNameAsVariable false
theorem num_n (R : Type) (k : List Rs → Option R) : runFC Tryz.prog T K11 (fun _ _ => none) false FU 50 R (mkAs T [23] [.n]) (fun _ => none) 0 (fun out => ob (resC T false [.d 68] out) k) = k [.d 68 (.i (numE (V.els .n)))] := by kernel_rfl
theorem num_0 (R : Type) (k : List Rs → Option R) : runFC Tryz.prog T K11 (fun _ _ => none) false FU 50 R (mkAs T [23] [.l (List.map nv [])]) (fun _ => none) 0 (fun out => ob (resC T false [.d 68] out) k) = k [.d 68 (.i (numE (List.map nv [])))] := by kernel_rfl
theorem num_1 (R : Type) (k : List Rs → Option R) (a : Nat) : runFC Tryz.prog T K11 (fun _ _ => none) false FU 50 R (mkAs T [23] [.l (List.map nv [a])]) (fun _ => none) 0 (fun out => ob (resC T false [.d 68] out) k) = k [.d 68 (.i (numE (List.map nv [a])))] := by kernel_rfl
theorem num_2 (R : Type) (k : List Rs → Option R) (a b : Nat) : runFC Tryz.prog T K11 (fun _ _ => none) false FU 50 R (mkAs T [23] [.l (List.map nv [a, b])]) (fun _ => none) 0 (fun out => ob (resC T false [.d 68] out) k) = k [.d 68 (.i (numE (List.map nv [a, b])))] := by kernel_rfl
theorem num_3 (R : Type) (k : List Rs → Option R) (a b c : Nat) : runFC Tryz.prog T K11 (fun _ _ => none) false FU 50 R (mkAs T [23] [.l (List.map nv [a, b, c])]) (fun _ => none) 0 (fun out => ob (resC T false [.d 68] out) k) = k [.d 68 (.i (numE (List.map nv [a, b, c])))] := by kernel_rfl
theorem num_4 (R : Type) (k : List Rs → Option R) (a b c d : Nat) : runFC Tryz.prog T K11 (fun _ _ => none) false FU 50 R (mkAs T [23] [.l (List.map nv [a, b, c, d])]) (fun _ => none) 0 (fun out => ob (resC T false [.d 68] out) k) = k [.d 68 (.i (numE (List.map nv [a, b, c, d])))] := by kernel_rfl
theorem num_5 (R : Type) (k : List Rs → Option R) (a b c d e : Nat) : runFC Tryz.prog T K11 (fun _ _ => none) false FU 50 R (mkAs T [23] [.l (List.map nv [a, b, c, d, e])]) (fun _ => none) 0 (fun out => ob (resC T false [.d 68] out) k) = k [.d 68 (.i (numE (List.map nv [a, b, c, d, e])))] := by kernel_rfl
theorem num_6 (R : Type) (k : List Rs → Option R) (a b c d e f : Nat) : runFC Tryz.prog T K11 (fun _ _ => none) false FU 50 R (mkAs T [23] [.l (List.map nv [a, b, c, d, e, f])]) (fun _ => none) 0 (fun out => ob (resC T false [.d 68] out) k) = k [.d 68 (.i (numE (List.map nv [a, b, c, d, e, f])))] := by kernel_rfl
theorem num_7 (R : Type) (k : List Rs → Option R) (a b c d e f g : Nat) : runFC Tryz.prog T K11 (fun _ _ => none) false FU 50 R (mkAs T [23] [.l (List.map nv [a, b, c, d, e, f, g])]) (fun _ => none) 0 (fun out => ob (resC T false [.d 68] out) k) = k [.d 68 (.i (numE (List.map nv [a, b, c, d, e, f, g])))] := by kernel_rfl
theorem num_8 (R : Type) (k : List Rs → Option R) (a b c d e f g h : Nat) : runFC Tryz.prog T K11 (fun _ _ => none) false FU 50 R (mkAs T [23] [.l (List.map nv [a, b, c, d, e, f, g, h])]) (fun _ => none) 0 (fun out => ob (resC T false [.d 68] out) k) = k [.d 68 (.i (numE (List.map nv [a, b, c, d, e, f, g, h])))] := by kernel_rfl
noncomputable def tab12 : List (Nat × SymC) := (50, pureS T false [23] (numF 68)) :: tab11
theorem tab12_ok : TabOK Tryz.prog T tab12 := by
  refine pure_con (sh := false) (rk := [.d 68]) (d := 4) (fu := FU) (Lo := (fun _ _ => none)) follows T_ok tab11_ok (numF_nat 68) (by kernel_rfl) loopsC_none (fun xs rs htv hrs => ?_)
  match xs, htv, htv.len with
  | [x], htv, _ =>
    obtain ⟨e, cs, hx⟩ := htv.head
    rcases tv_bytes (T := T) (t := 23) (el := 5) (by kernel_rfl) (by kernel_rfl) hx with rfl | ⟨ns, rfl, hb⟩
    · have hrs : some [Rs.d 68 (.i (numE (V.els .n)))] = some rs := hrs
      rw [← hrs]
      have h := num_n (List Rs) some
      simp only [ob_id] at h
      exact h
    · obtain ⟨hl, hrs⟩ := numF_at hrs
      rw [hrs]
      match ns, hl with
      | [], _ =>
        have h := num_0 (List Rs) some
        simp only [ob_id] at h
        exact h
      | [a], _ =>
        have h := num_1 (List Rs) some a
        simp only [ob_id] at h
        exact h
      | [a, b], _ =>
        have h := num_2 (List Rs) some a b
        simp only [ob_id] at h
        exact h
      | [a, b, c], _ =>
        have h := num_3 (List Rs) some a b c
        simp only [ob_id] at h
        exact h
      | [a, b, c, d], _ =>
        have h := num_4 (List Rs) some a b c d
        simp only [ob_id] at h
        exact h
      | [a, b, c, d, e], _ =>
        have h := num_5 (List Rs) some a b c d e
        simp only [ob_id] at h
        exact h
      | [a, b, c, d, e, f], _ =>
        have h := num_6 (List Rs) some a b c d e f
        simp only [ob_id] at h
        exact h
      | [a, b, c, d, e, f, g], _ =>
        have h := num_7 (List Rs) some a b c d e f g
        simp only [ob_id] at h
        exact h
      | [a, b, c, d, e, f, g, h], _ =>
        have h := num_8 (List Rs) some a b c d e f g h
        simp only [ob_id] at h
        exact h
      | _ :: _ :: _ :: _ :: _ :: _ :: _ :: _ :: _ :: _, hl => exact absurd hl (by simp)
noncomputable def K12 : KC := runAC Tryz.prog T tab12 false FU 4
theorem hK12 : K12.nat := runAC_nat tab12_ok 4
theorem hS12 : KOK Tryz.prog T K12.dir := runAC_ok follows T_ok tab12_ok 4
theorem run_raw (R : Type) (xs : List V) (err n : Int) (k : List Rs → Option R) : runFC Tryz.prog T K12 (fun _ _ => none) false FU 49 R (.p 0 107 [] :: mkAs T [3] [.i n]) (box0 107 (.l [.l xs, .i err])) 1 (fun out => ob (resM T 107 (.l [.l xs, .i err]) [.d 23] out) k) = rawG 107 23 xs err n k := by kernel_rfl
theorem run_rawN (R : Type) (err n : Int) (k : List Rs → Option R) : runFC Tryz.prog T K12 (fun _ _ => none) false FU 49 R (.p 0 107 [] :: mkAs T [3] [.i n]) (box0 107 (.l [.n, .i err])) 1 (fun out => ob (resM T 107 (.l [.n, .i err]) [.d 23] out) k) = rawN 107 23 err n k := by kernel_rfl
noncomputable def tab13 : List (Nat × SymC) := (49, pureM T 107 [3] (rawF 107 23)) :: tab12
theorem tab13_ok : TabOK Tryz.prog T tab13 := by
  refine pureM_con (rk := [.d 23]) (d := 4) (fu := FU) (Lo := (fun _ _ => none)) follows T_ok tab12_ok (rawF_nat 107 23) (by kernel_rfl) (by kernel_rfl) loopsC_none (fun x xs rs htv hrs => ?_)
  match xs, htv, htv.len with
  | [n], htv, _ =>
    obtain ⟨e, cs, hx⟩ := htv.head
    obtain ⟨e2, cs2, hn⟩ := htv.tail.head
    obtain ⟨n, rfl, _⟩ := tv_int (T := T) (t := 3) (k := .i64) (by kernel_rfl) hn
    obtain ⟨y, err, rfl, _, rfl | ⟨ys, rfl⟩⟩ := tv_two (T := T) (t := 107) (s := 23) (el := 5) (er := 25) (k := .i64) (by kernel_rfl) (by kernel_rfl) (by kernel_rfl) hx
    · have h := (run_rawN (List Rs) err n some).trans (raw_lawN 107 23 hrs)
      simp only [ob_id] at h
      exact h
    · have h := (run_raw (List Rs) ys err n some).trans (raw_law 107 23 hrs)
      simp only [ob_id] at h
      exact h
noncomputable def K13 : KC := runAC Tryz.prog T tab13 false FU 4
theorem hK13 : K13.nat := runAC_nat tab13_ok 4
theorem hS13 : KOK Tryz.prog T K13.dir := runAC_ok follows T_ok tab13_ok 4
theorem run_cnt (R : Type) (n : Int) (k : List Rs → Option R) : runFC Tryz.prog T K13 (fun _ _ => none) false FU 52 R (mkAs T [23, 68] [.n, .i n]) (fun _ => none) 0 (fun out => ob (resC T true [.d 23] out) k) = cntG 23 n k := by kernel_rfl
noncomputable def tab14 : List (Nat × SymC) := (52, pureS T true [23, 68] (cntF 23)) :: tab13
theorem tab14_ok : TabOK Tryz.prog T tab14 := by
  refine pure_con (sh := true) (rk := [.d 23]) (d := 4) (fu := FU) (Lo := (fun _ _ => none)) follows T_ok tab13_ok (cntF_nat 23) (by kernel_rfl) loopsC_none (fun xs rs htv hrs => ?_)
  match xs, htv, htv.len with
  | [x, n], htv, _ =>
    obtain ⟨e2, cs2, hn⟩ := htv.tail.head
    obtain ⟨n, rfl, _⟩ := tv_int (T := T) (t := 68) (k := .u64) (by kernel_rfl) hn
    cases x with
    | n =>
      have h := (run_cnt (List Rs) n some).trans (cnt_at hrs)
      simp only [ob_id] at h
      exact h
    | _ => cases hrs
noncomputable def K14 : KC := runAC Tryz.prog T tab14 false FU 4
theorem hK14 : K14.nat := runAC_nat tab14_ok 4
theorem hS14 : KOK Tryz.prog T K14.dir := runAC_ok follows T_ok tab14_ok 4
theorem run_pk (R : Type) (xs : List V) (err n : Int) (k : List Rs → Option R) : runFC Tryz.prog T K14 (fun _ _ => none) false FU 48 R (.p 0 107 [] :: mkAs T [68] [.i n]) (box0 107 (.l [.l xs, .i err])) 1 (fun out => ob (resM T 107 (.l [.l xs, .i err]) [.d 68, .d 3, .d 25] out) k) = pkG (.l [.l xs, .i err]) xs n (fun p => k (pkR 107 68 25 3 (.l [.l xs, .i err]) p)) := by kernel_rfl
theorem run_pkN (R : Type)  (err n : Int) (k : List Rs → Option R) : runFC Tryz.prog T K14 (fun _ _ => none) false FU 48 R (.p 0 107 [] :: mkAs T [68] [.i n]) (box0 107 (.l [.n, .i err])) 1 (fun out => ob (resM T 107 (.l [.n, .i err]) [.d 68, .d 3, .d 25] out) k) = k (pkR 107 68 25 3 (.l [.n, .i err]) (0, 0, 61)) := by kernel_rfl
noncomputable def tab15 : List (Nat × SymC) := (48, pureM T 107 [68] (pkF 107 68 25 3)) :: tab14
theorem tab15_ok : TabOK Tryz.prog T tab15 := by
  refine pureM_con (rk := [.d 68, .d 3, .d 25]) (d := 4) (fu := FU) (Lo := (fun _ _ => none)) follows T_ok tab14_ok (pkF_nat 107 68 25 3) (by kernel_rfl) (by kernel_rfl) loopsC_none (fun x xs rs htv hrs => ?_)
  match xs, htv, htv.len with
  | [n], htv, _ =>
    obtain ⟨e, cs, hx⟩ := htv.head
    obtain ⟨e2, cs2, hn⟩ := htv.tail.head
    obtain ⟨n, rfl, _⟩ := tv_int (T := T) (t := 68) (k := .u64) (by kernel_rfl) hn
    obtain ⟨y, err, rfl, _, rfl | ⟨ys, rfl⟩⟩ := tv_two (T := T) (t := 107) (s := 23) (el := 5) (er := 25) (k := .i64) (by kernel_rfl) (by kernel_rfl) (by kernel_rfl) hx
    · have h := (run_pkN (List Rs) err n some).trans (pk_atN hrs)
      simp only [ob_id] at h
      exact h
    · have h := (run_pk (List Rs) ys err n some).trans (pk_at hrs)
      simp only [ob_id] at h
      exact h
noncomputable def K15 : KC := runAC Tryz.prog T tab15 false FU 4
theorem hK15 : K15.nat := runAC_nat tab15_ok 4
theorem hS15 : KOK Tryz.prog T K15.dir := runAC_ok follows T_ok tab15_ok 4
theorem run_ct (R : Type) (xs : List V) (err n : Int) (k : List Rs → Option R) : runFC Tryz.prog T K15 (fun _ _ => none) false FU 20 R (.p 0 107 [] :: mkAs T [68] [.i n]) (box0 107 (.l [.l xs, .i err])) 1 (fun out => ob (resM T 107 (.l [.l xs, .i err]) [.d 68] out) k) = ctG 107 68 xs err n k := by kernel_rfl
theorem run_ctN (R : Type)  (err n : Int) (k : List Rs → Option R) : runFC Tryz.prog T K15 (fun _ _ => none) false FU 20 R (.p 0 107 [] :: mkAs T [68] [.i n]) (box0 107 (.l [.n, .i err])) 1 (fun out => ob (resM T 107 (.l [.n, .i err]) [.d 68] out) k) = ctN 107 68 err k := by kernel_rfl
noncomputable def tab16 : List (Nat × SymC) := (20, pureM T 107 [68] (ctF 107 68)) :: tab15
theorem tab16_ok : TabOK Tryz.prog T tab16 := by
  refine pureM_con (rk := [.d 68]) (d := 4) (fu := FU) (Lo := (fun _ _ => none)) follows T_ok tab15_ok (ctF_nat 107 68) (by kernel_rfl) (by kernel_rfl) loopsC_none (fun x xs rs htv hrs => ?_)
  match xs, htv, htv.len with
  | [n], htv, _ =>
    obtain ⟨e, cs, hx⟩ := htv.head
    obtain ⟨e2, cs2, hn⟩ := htv.tail.head
    obtain ⟨n, rfl, _⟩ := tv_int (T := T) (t := 68) (k := .u64) (by kernel_rfl) hn
    obtain ⟨y, err, rfl, _, rfl | ⟨ys, rfl⟩⟩ := tv_two (T := T) (t := 107) (s := 23) (el := 5) (er := 25) (k := .i64) (by kernel_rfl) (by kernel_rfl) (by kernel_rfl) hx
    · have h := (run_ctN (List Rs) err n some).trans (ct_lawN 107 68 hrs)
      simp only [ob_id] at h
      exact h
    · have h := (run_ct (List Rs) ys err n some).trans (ct_law 107 68 hrs)
      simp only [ob_id] at h
      exact h
noncomputable def K16 : KC := runAC Tryz.prog T tab16 false FU 4
theorem hK16 : K16.nat := runAC_nat tab16_ok 4
theorem hS16 : KOK Tryz.prog T K16.dir := runAC_ok follows T_ok tab16_ok 4
theorem run_tx (R : Type) (xs : List V) (err n : Int) (k : List Rs → Option R) : runFC Tryz.prog T K16 (fun _ _ => none) false FU 22 R (.p 0 107 [] :: mkAs T [3] [.i n]) (box0 107 (.l [.l xs, .i err])) 1 (fun out => ob (resM T 107 (.l [.l xs, .i err]) [.d 23] out) k) = txG 107 23 xs err n k := by kernel_rfl
theorem run_txN (R : Type)  (err n : Int) (k : List Rs → Option R) : runFC Tryz.prog T K16 (fun _ _ => none) false FU 22 R (.p 0 107 [] :: mkAs T [3] [.i n]) (box0 107 (.l [.n, .i err])) 1 (fun out => ob (resM T 107 (.l [.n, .i err]) [.d 23] out) k) = txN 107 23 err k := by kernel_rfl
noncomputable def tab17 : List (Nat × SymC) := (22, pureM T 107 [3] (txF 107 23)) :: tab16
theorem tab17_ok : TabOK Tryz.prog T tab17 := by
  refine pureM_con (rk := [.d 23]) (d := 4) (fu := FU) (Lo := (fun _ _ => none)) follows T_ok tab16_ok (txF_nat 107 23) (by kernel_rfl) (by kernel_rfl) loopsC_none (fun x xs rs htv hrs => ?_)
  match xs, htv, htv.len with
  | [n], htv, _ =>
    obtain ⟨e, cs, hx⟩ := htv.head
    obtain ⟨e2, cs2, hn⟩ := htv.tail.head
    obtain ⟨n, rfl, _⟩ := tv_int (T := T) (t := 3) (k := .i64) (by kernel_rfl) hn
    obtain ⟨y, err, rfl, _, rfl | ⟨ys, rfl⟩⟩ := tv_two (T := T) (t := 107) (s := 23) (el := 5) (er := 25) (k := .i64) (by kernel_rfl) (by kernel_rfl) (by kernel_rfl) hx
    · have h := (run_txN (List Rs) err n some).trans (tx_lawN 107 23 hrs)
      simp only [ob_id] at h
      exact h
    · have h := (run_tx (List Rs) ys err n some).trans (tx_law 107 23 hrs)
      simp only [ob_id] at h
      exact h
noncomputable def K17 : KC := runAC Tryz.prog T tab17 false FU 4
theorem hK17 : K17.nat := runAC_nat tab17_ok 4
theorem hS17 : KOK Tryz.prog T K17.dir := runAC_ok follows T_ok tab17_ok 4
theorem run_fx (R : Type) (x : V) (n : Int) (k : List Rs → Option R) : runFC Tryz.prog T K17 (fun _ _ => none) false FU 23 R (.p 0 107 [] :: mkAs T [3] [.i n]) (box0 107 x) 1 (fun out => ob (resM T 107 x [.d 68] out) k) = fxG 107 68 x n k := by kernel_rfl
noncomputable def tab18 : List (Nat × SymC) := (23, pureM T 107 [3] (fxF 107 68)) :: tab17
theorem tab18_ok : TabOK Tryz.prog T tab18 := by
  refine pureM_con (rk := [.d 68]) (d := 4) (fu := FU) (Lo := (fun _ _ => none)) follows T_ok tab17_ok (fxF_nat 107 68) (by kernel_rfl) (by kernel_rfl) loopsC_none (fun x xs rs htv hrs => ?_)
  match xs, htv, htv.len with
  | [n], htv, _ =>
    obtain ⟨e2, cs2, hn⟩ := htv.tail.head
    obtain ⟨n, rfl, _⟩ := tv_int (T := T) (t := 3) (k := .i64) (by kernel_rfl) hn
    have h := (run_fx (List Rs) x n some).trans (fx_law 107 68 hrs)
    simp only [ob_id] at h
    exact h
noncomputable def K18 : KC := runAC Tryz.prog T tab18 false FU 4
theorem hK18 : K18.nat := runAC_nat tab18_ok 4
theorem hS18 : KOK Tryz.prog T K18.dir := runAC_ok follows T_ok tab18_ok 4
end Go.Proofs.YtkaobamodajniaaGreat

namespace Go.Proofs.YtkaobamodajniaaGreat
open Go.Vm
set_option maxRecDepth 100000
set_option linter.unusedVariables false
set_option linter.constructorNameAsVariable false
theorem run_rr (R : Type) (x : V) (k : List Rs → Option R) : runFC Tryz.prog T K18 (fun _ _ => none) false FU 24 R (.p 0 107 [] :: mkAs T [] []) (box0 107 x) 1 (fun out => ob (resM T 107 x [.d 33] out) k) = rrG 107 33 x k := by kernel_rfl
noncomputable def tab19 : List (Nat × SymC) := (24, pureM T 107 [] (rrF 107 33)) :: tab18
theorem tab19_ok : TabOK Tryz.prog T tab19 := by
  refine pureM_con (rk := [.d 33]) (d := 4) (fu := FU) (Lo := (fun _ _ => none)) follows T_ok tab18_ok (rrF_nat 107 33) (by kernel_rfl) (by kernel_rfl) loopsC_none (fun x xs rs htv hrs => ?_)
  match xs, htv, htv.len with
  | [], htv, _ =>
    have h := (run_rr (List Rs) x some).trans (rr_law 107 33 hrs)
    simp only [ob_id] at h
    exact h
noncomputable def K19 : KC := runAC Tryz.prog T tab19 false FU 4
theorem hK19 : K19.nat := runAC_nat tab19_ok 4
theorem hS19 : KOK Tryz.prog T K19.dir := runAC_ok follows T_ok tab19_ok 4
end Go.Proofs.YtkaobamodajniaaGreat

namespace Go.Proofs.YtkaobamodajniaaGreat
open Go.Vm
set_option maxRecDepth 100000
set_option linter.unusedVariables false
set_option linter.constructorNameAsVariable false
def tmEp : PEp → Vm.St
  | .m0 nm y n => ⟨[(0, .s nm), (4, .o 0 1), (5, .i .i64 0), (6, .p 3 107 []), (7, .o 4 1), (8, .i .u64 n)], (.n (some (.row 35 1 [] true false)) (.n none (.n (some (.box 107 (.v 107 y) false)) .e .e) .e) (.n none (.n (some (.row 35 1 [] true false)) .e .e) .e)), [], 5, some []⟩
  | .m1 nm y xs n => ⟨[(0, .s nm), (4, .o 0 1), (5, .i .i64 0), (6, .p 3 107 []), (7, .o 4 1), (8, .i .u64 n)], (.n (some (.row 35 1 [] true false)) (.n none (.n (some (.box 107 (.v 107 y) false)) .e .e) .e) (.n none (.n (some (.row 35 1 xs false false)) .e .e) .e)), [], 5, some []⟩
def ekEp (R : Type) (kx : Exit → Vm.St → Option R) : QEp → Option R
  | .o0 nm y n => kx (.exit 0) ⟨[(0, .s nm), (4, .o 0 1), (5, .i .i64 0), (6, .p 3 107 []), (7, .o 4 1), (8, .i .u64 n)], (.n (some (.row 35 1 [] true false)) (.n none (.n (some (.box 107 (.v 107 y) false)) .e .e) .e) (.n none (.n (some (.row 35 1 [] true false)) .e .e) .e)), [], 8, some []⟩
  | .o1 nm y xs n => kx (.exit 0) ⟨[(0, .s nm), (4, .o 0 1), (5, .i .i64 0), (6, .p 3 107 []), (7, .o 4 1), (8, .i .u64 n)], (.n (some (.row 35 1 [] true false)) (.n none (.n (some (.box 107 (.v 107 y) false)) .e .e) .e) (.n none (.n (some (.row 35 1 xs false false)) .e .e) .e)), [], 8, some []⟩
  | .r0 nm y n => kx (.ret) ⟨[(0, .s nm), (4, .o 6 1), (5, .i .i64 62), (6, .p 3 107 []), (7, .o 4 1), (8, .i .u64 n)], (.n none (.n none (.n (some (.box 107 (.v 107 y) false)) .e .e) .e) (.n none (.n (some (.row 35 1 [] true false)) .e .e) (.n (some (.row 35 1 [] true false)) .e .e))), [], 8, some []⟩
  | .r1 nm y xs n => kx (.ret) ⟨[(0, .s nm), (4, .o 6 1), (5, .i .i64 62), (6, .p 3 107 []), (7, .o 4 1), (8, .i .u64 n)], (.n none (.n none (.n (some (.box 107 (.v 107 y) false)) .e .e) .e) (.n none (.n (some (.row 35 1 xs false false)) .e .e) (.n (some (.row 35 1 [] true false)) .e .e))), [], 8, some []⟩
def extEp : Vm.St → Option PEp
  | ⟨[(0, .s nm), (4, .o 0 1), (5, .i .i64 0), (6, .p 3 107 []), (7, .o 4 1), (8, .i .u64 n)], (.n (some (.row 35 1 [] true false)) (.n none (.n (some (.box 107 (.v 107 y) false)) .e .e) .e) (.n none (.n (some (.row 35 1 [] true false)) .e .e) .e)), [], 5, some []⟩ => some (.m0 nm y n)
  | ⟨[(0, .s nm), (4, .o 0 1), (5, .i .i64 0), (6, .p 3 107 []), (7, .o 4 1), (8, .i .u64 n)], (.n (some (.row 35 1 [] true false)) (.n none (.n (some (.box 107 (.v 107 y) false)) .e .e) .e) (.n none (.n (some (.row 35 1 xs false false)) .e .e) .e)), [], 5, some []⟩ => some (.m1 nm y xs n)
  | _ => none
theorem extEp_ok (τ : Vm.St) (x : PEp) (h : extEp τ = some x) : τ = tmEp x := by
  unfold extEp at h
  split at h <;> first | (cases h; rfl) | cases h
theorem stepEp (R : Type) (of : Nat → Option Ob) (x : PEp) (K : Vm.St → Option R) (kx : Exit → Vm.St → Option R) : execC T K19 (fun _ => none) false FU (ntOf Tryz.prog 6) of R (lp (codeOf Tryz.prog 6) 0) (tmEp x) (sortN 0 [0, 4, 5, 6, 7, 8] 8 K kx) = BEp R x (fun x' => K (tmEp x')) (ekEp R kx) := by
  cases x
  · kernel_rfl
  · kernel_rfl
noncomputable def HEp : LS := loopH T K19 (fun _ => none) (ntOf Tryz.prog 6) (lp (codeOf Tryz.prog 6) 0) 0 [0, 4, 5, 6, 7, 8] 8 extEp BEp ekEp
theorem HEp_ok : LoopTk Tryz.prog T (ntOf Tryz.prog 6) 0 (lp (codeOf Tryz.prog 6) 0) HEp :=
  loopH_ok follows T_ok hK19 hS19 loNat_none (loopsOK_none _) tmEp extEp_ok stepEp
noncomputable def LoEp : Nat → LC := atN 0 [(4, HEp)]
theorem LoEp_ok : LoopsC Tryz.prog T 6 LoEp := loopsC_at 0 (List.forall_mem_cons.2 ⟨HEp_ok.1, fun _ h => by cases h⟩) 1 (by kernel_rfl) ⟨trivial, loI (s0 := HEp) (by kernel_rfl) HEp_ok⟩
theorem run_ep (R : Type) (nm bs : List V) (k : List Rs → Option R) : runFC Tryz.prog T K19 LoEp false FU 6 R (mkAs T [9, 23] [.s nm, .l bs]) (fun _ => none) 0 (fun out => ob (resC T true [.d 22, .d 25] out) k) = epG bs 22 25 nm k := by kernel_rfl
theorem run_epN (R : Type) (nm : List V) (k : List Rs → Option R) : runFC Tryz.prog T K19 LoEp false FU 6 R (mkAs T [9, 23] [.s nm, .n]) (fun _ => none) 0 (fun out => ob (resC T true [.d 22, .d 25] out) k) = epN 22 25 nm k := by kernel_rfl
noncomputable def tab20 : List (Nat × SymC) := (6, pureS T true [9, 23] (epF2 22 25)) :: tab19
theorem tab20_ok : TabOK Tryz.prog T tab20 := by
  refine pure_con (sh := true) (rk := [.d 22, .d 25]) (d := 4) (fu := FU) (Lo := LoEp) follows T_ok tab19_ok (epF2_nat 22 25) (by kernel_rfl) LoEp_ok (fun xs rs htv hrs => ?_)
  match xs, htv, htv.len with
  | [x, y], htv, _ =>
    obtain ⟨e1, cs1, hx⟩ := htv.head
    obtain ⟨nm, rfl⟩ := tv_str (T := T) (t := 9) (by kernel_rfl) hx
    obtain ⟨e2, cs2, hy⟩ := htv.tail.head
    rcases tv_bytes (T := T) (t := 23) (el := 5) (by kernel_rfl) (by kernel_rfl) hy with rfl | ⟨ns, rfl, hb⟩
    · have h := (run_epN (List Rs) nm some).trans (ep_lawN (epF2_at hrs))
      simp only [ob_id] at h
      exact h
    · have h := (run_ep (List Rs) nm (ns.map nv) some).trans (ep_law (epF2_at hrs))
      simp only [ob_id] at h
      exact h
noncomputable def K20 : KC := runAC Tryz.prog T tab20 false FU 4
theorem hK20 : K20.nat := runAC_nat tab20_ok 4
theorem hS20 : KOK Tryz.prog T K20.dir := runAC_ok follows T_ok tab20_ok 4
end Go.Proofs.YtkaobamodajniaaGreat

namespace Go.Proofs.YtkaobamodajniaaGreat
open Go.Vm
set_option maxRecDepth 100000
set_option linter.unusedVariables false
set_option linter.constructorNameAsVariable false
def tmEn : PEn → Vm.St
  | .m xs bs n i => ⟨[(3, .o 0 1), (10, .v 22 (.l xs)), (11, .i .i64 n), (12, .i .i64 i)], (.n (some (.row 5 1 bs false false)) .e .e), [], 1, some []⟩
def ekEn (R : Type) (kx : Exit → Vm.St → Option R) : QEn → Option R
  | .o xs bs n i => kx (.exit 0) ⟨[(3, .o 0 1), (10, .v 22 (.l xs)), (11, .i .i64 n), (12, .i .i64 i)], (.n (some (.row 5 1 bs false false)) .e .e), [], 16, some []⟩
def extEn : Vm.St → Option PEn
  | ⟨[(3, .o 0 1), (10, .v 22 (.l xs)), (11, .i .i64 n), (12, .i .i64 i)], (.n (some (.row 5 1 bs false false)) .e .e), [], 1, some []⟩ => some (.m xs bs n i)
  | _ => none
theorem extEn_ok (τ : Vm.St) (x : PEn) (h : extEn τ = some x) : τ = tmEn x := by
  unfold extEn at h
  split at h <;> first | (cases h; rfl) | cases h
theorem stepEn (R : Type) (of : Nat → Option Ob) (x : PEn) (K : Vm.St → Option R) (kx : Exit → Vm.St → Option R) : execC T K20 (fun _ => none) false FU (ntOf Tryz.prog 8) of R (lp (codeOf Tryz.prog 8) 0) (tmEn x) (sortN 0 [999999, 3, 10, 11, 12] 16 K kx) = BEn R x (fun x' => K (tmEn x')) (ekEn R kx) := by
  cases x
  · kernel_rfl
noncomputable def HEn : LS := loopH T K20 (fun _ => none) (ntOf Tryz.prog 8) (lp (codeOf Tryz.prog 8) 0) 0 [999999, 3, 10, 11, 12] 16 extEn BEn ekEn
theorem HEn_ok : LoopTk Tryz.prog T (ntOf Tryz.prog 8) 0 (lp (codeOf Tryz.prog 8) 0) HEn :=
  loopH_ok follows T_ok hK20 hS20 loNat_none (loopsOK_none _) tmEn extEn_ok stepEn
noncomputable def LoEn : Nat → LC := atN 0 [(3, HEn)]
theorem LoEn_ok : LoopsC Tryz.prog T 8 LoEn := loopsC_at 0 (List.forall_mem_cons.2 ⟨HEn_ok.1, fun _ h => by cases h⟩) 1 (by kernel_rfl) ⟨trivial, loI (s0 := HEn) (by kernel_rfl) HEn_ok⟩
theorem run_En (xs : List V) : runFC Tryz.prog T K20 LoEn false FU 8 (List Rs) (mkAs T [22] [.l xs]) (fun _ => none) 0 (fun out => resC T true [.r 5] out) = enG BEn 5 xs := by kernel_rfl
theorem run_EnN  : runFC Tryz.prog T K20 LoEn false FU 8 (List Rs) (mkAs T [22] [.n]) (fun _ => none) 0 (fun out => resC T true [.r 5] out) = some (ensr 5 [.n]) := by kernel_rfl
noncomputable def tab21 : List (Nat × SymC) := (8, pureS T true [22] (gF ensg (ensr 5))) :: tab20
theorem tab21_ok : TabOK Tryz.prog T tab21 := by
  refine pure_conG (sh := true) (rk := [.r 5]) (d := 4) (fu := FU) (Lo := LoEn) (ds := [.slice DEnt]) follows T_ok tab20_ok (by kernel_rfl) LoEn_ok 40 (by kernel_rfl) (fun xs hd hg => ?_)
  obtain ⟨a, rfl, ha⟩ := hasL1 hd
  rcases ha with rfl | ⟨ys, rfl, hy⟩
  · exact run_EnN
  · exact (run_En ys).trans (enG_law hy hg).1
noncomputable def K21 : KC := runAC Tryz.prog T tab21 false FU 4
theorem hK21 : K21.nat := runAC_nat tab21_ok 4
theorem hS21 : KOK Tryz.prog T K21.dir := runAC_ok follows T_ok tab21_ok 4
def tmEd : PEd → Vm.St
  | .m xs bs n i => ⟨[(3, .o 0 1), (10, .v 22 (.l xs)), (11, .i .i64 n), (12, .i .i64 i)], (.n (some (.row 5 1 bs false false)) .e .e), [], 1, some []⟩
def ekEd (R : Type) (kx : Exit → Vm.St → Option R) : QEd → Option R
  | .o xs bs n i => kx (.exit 0) ⟨[(3, .o 0 1), (10, .v 22 (.l xs)), (11, .i .i64 n), (12, .i .i64 i)], (.n (some (.row 5 1 bs false false)) .e .e), [], 16, some []⟩
def extEd : Vm.St → Option PEd
  | ⟨[(3, .o 0 1), (10, .v 22 (.l xs)), (11, .i .i64 n), (12, .i .i64 i)], (.n (some (.row 5 1 bs false false)) .e .e), [], 1, some []⟩ => some (.m xs bs n i)
  | _ => none
theorem extEd_ok (τ : Vm.St) (x : PEd) (h : extEd τ = some x) : τ = tmEd x := by
  unfold extEd at h
  split at h <;> first | (cases h; rfl) | cases h
theorem stepEd (R : Type) (of : Nat → Option Ob) (x : PEd) (K : Vm.St → Option R) (kx : Exit → Vm.St → Option R) : execC T K21 (fun _ => none) false FU (ntOf Tryz.prog 7) of R (lp (codeOf Tryz.prog 7) 0) (tmEd x) (sortN 0 [999999, 3, 10, 11, 12] 16 K kx) = BEd R x (fun x' => K (tmEd x')) (ekEd R kx) := by
  cases x
  · kernel_rfl
noncomputable def HEd : LS := loopH T K21 (fun _ => none) (ntOf Tryz.prog 7) (lp (codeOf Tryz.prog 7) 0) 0 [999999, 3, 10, 11, 12] 16 extEd BEd ekEd
theorem HEd_ok : LoopTk Tryz.prog T (ntOf Tryz.prog 7) 0 (lp (codeOf Tryz.prog 7) 0) HEd :=
  loopH_ok follows T_ok hK21 hS21 loNat_none (loopsOK_none _) tmEd extEd_ok stepEd
noncomputable def LoEd : Nat → LC := atN 0 [(3, HEd)]
theorem LoEd_ok : LoopsC Tryz.prog T 7 LoEd := loopsC_at 0 (List.forall_mem_cons.2 ⟨HEd_ok.1, fun _ h => by cases h⟩) 1 (by kernel_rfl) ⟨trivial, loI (s0 := HEd) (by kernel_rfl) HEd_ok⟩
theorem run_Ed (xs : List V) : runFC Tryz.prog T K21 LoEd false FU 7 (List Rs) (mkAs T [22] [.l xs]) (fun _ => none) 0 (fun out => resC T true [.r 5] out) = enG BEd 5 xs := by kernel_rfl
theorem run_EdN  : runFC Tryz.prog T K21 LoEd false FU 7 (List Rs) (mkAs T [22] [.n]) (fun _ => none) 0 (fun out => resC T true [.r 5] out) = some (ensr 5 [.n]) := by kernel_rfl
noncomputable def tab22 : List (Nat × SymC) := (7, pureS T true [22] (gF ensg (ensr 5))) :: tab21
theorem tab22_ok : TabOK Tryz.prog T tab22 := by
  refine pure_conG (sh := true) (rk := [.r 5]) (d := 4) (fu := FU) (Lo := LoEd) (ds := [.slice DEnt]) follows T_ok tab21_ok (by kernel_rfl) LoEd_ok 40 (by kernel_rfl) (fun xs hd hg => ?_)
  obtain ⟨a, rfl, ha⟩ := hasL1 hd
  rcases ha with rfl | ⟨ys, rfl, hy⟩
  · exact run_EdN
  · exact (run_Ed ys).trans (enG_law hy hg).2
noncomputable def K22 : KC := runAC Tryz.prog T tab22 false FU 4
theorem hK22 : K22.nat := runAC_nat tab22_ok 4
theorem hS22 : KOK Tryz.prog T K22.dir := runAC_ok follows T_ok tab22_ok 4
end Go.Proofs.YtkaobamodajniaaGreat

namespace Go.Proofs.YtkaobamodajniaaGreat
open Go.Vm
set_option maxRecDepth 100000
set_option linter.unusedVariables false
noncomputable def tabA0 : List (Nat × Sym) := [(115, (pureS T false [191, 23] (seeF (Fmx 191))).dir), (169, carry64), (170, borrow64)]
theorem tabA0_ok : AllS Tryz.prog T tabA0 := ⟨TabOK.see (TabOK.at tab3_ok (by kernel_rfl)), carry64_ok Tryz.func169 (by kernel_rfl) (by kernel_rfl) (by kernel_rfl) (by kernel_rfl), borrow64_ok Tryz.func170 (by kernel_rfl) (by kernel_rfl) (by kernel_rfl) (by kernel_rfl), trivial⟩
theorem alive_run : ob (runZ Tryz.prog T tabA0 100000 60 5 (mkAs T [] []) (fun _ => none) 0) (fun out => resC T true [.d 4] out) = some [.d 4 (.b true)] := by kernel_rfl
noncomputable def aliveC : SymC := pureS T true [] (gF (fun _ => true) (fun _ => [.d 4 (.b true)]))
theorem aliveC_nat : aliveC.nat := pureS_nat (gF_nat _ _)
theorem alive : SymOK Tryz.prog T 5 aliveC.dir :=
  pure_ok (s := ofSym (runZ Tryz.prog T tabA0 100000 60 5)) (ofSym_nat _) (by rw [ofSym_dir]; exact runZ_ok follows T_ok tabA0_ok) (rk := [.d 4]) (gF_nat _ _) rfl (fun xs rs htv hrs => by
    have hl := htv.len
    cases xs with
    | cons _ _ => cases hl
    | nil =>
      obtain ⟨_, rfl⟩ := gF_at hrs
      exact alive_run)
end Go.Proofs.YtkaobamodajniaaGreat

namespace Go.Proofs.YtkaobamodajniaaGreat
open Go.Vm
set_option maxRecDepth 100000
set_option linter.unusedVariables false
set_option linter.constructorNameAsVariable false
noncomputable def tab23 : List (Nat × SymC) := (5, aliveC) :: tab22
theorem tab23_ok : TabOK Tryz.prog T tab23 := tab22_ok.cons aliveC_nat alive
noncomputable def K23 : KC := runAC Tryz.prog T tab23 false FU 4
theorem hK23 : K23.nat := runAC_nat tab23_ok 4
theorem hS23 : KOK Tryz.prog T K23.dir := runAC_ok follows T_ok tab23_ok 4
def tmL1 : PL1 → Vm.St
  | .m nm ls acc n i => ⟨[(0, .s nm), (6, .b false), (9, .o 0 1), (61, .v 22 (.l ls)), (62, .i .i64 n), (63, .i .i64 i)], (.n (some (.row 35 1 acc false false)) .e .e), [], 1, some []⟩
def ekL1 (R : Type) (kx : Exit → Vm.St → Option R) : QL1 → Option R
  | .o nm ls acc n i => kx (.exit 0) ⟨[(0, .s nm), (6, .b false), (9, .o 0 1), (61, .v 22 (.l ls)), (62, .i .i64 n), (63, .i .i64 i)], (.n (some (.row 35 1 acc false false)) .e .e), [], 16, some []⟩
  | .r nm ls acc n i => kx (.ret) ⟨[(0, .s nm), (6, .b true), (9, .o 0 1), (61, .v 22 (.l ls)), (62, .i .i64 n), (63, .i .i64 i)], (.n (some (.row 35 1 acc false false)) .e .e), [], 16, some []⟩
def extL1 : Vm.St → Option PL1
  | ⟨[(0, .s nm), (6, .b false), (9, .o 0 1), (61, .v 22 (.l ls)), (62, .i .i64 n), (63, .i .i64 i)], (.n (some (.row 35 1 acc false false)) .e .e), [], 1, some []⟩ => some (.m nm ls acc n i)
  | _ => none
theorem extL1_ok (τ : Vm.St) (x : PL1) (h : extL1 τ = some x) : τ = tmL1 x := by
  unfold extL1 at h
  split at h <;> first | (cases h; rfl) | cases h
theorem stepL1 (R : Type) (of : Nat → Option Ob) (x : PL1) (K : Vm.St → Option R) (kx : Exit → Vm.St → Option R) : execC T K23 (fun _ => none) false FU (ntOf Tryz.prog 3) of R (lp (codeOf Tryz.prog 3) 0) (tmL1 x) (sortN 0 [999999, 0, 6, 9, 61, 62, 63] 16 K kx) = BL1 R x (fun x' => K (tmL1 x')) (ekL1 R kx) := by
  cases x
  · kernel_rfl
noncomputable def HL1 : LS := loopH T K23 (fun _ => none) (ntOf Tryz.prog 3) (lp (codeOf Tryz.prog 3) 0) 0 [999999, 0, 6, 9, 61, 62, 63] 16 extL1 BL1 ekL1
theorem HL1_ok : LoopTk Tryz.prog T (ntOf Tryz.prog 3) 0 (lp (codeOf Tryz.prog 3) 0) HL1 :=
  loopH_ok follows T_ok hK23 hS23 loNat_none (loopsOK_none _) tmL1 extL1_ok stepL1
def tmL2 : PL2 → Vm.St
  | .m acc zs n i => ⟨[(6, .b false), (9, .o 0 1), (13, .v 22 (.l zs)), (114, .i .i64 n), (115, .i .i64 i)], (.n (some (.row 35 1 acc false true)) .e .e), [], 1, some []⟩
def ekL2 (R : Type) (kx : Exit → Vm.St → Option R) : QL2 → Option R
  | .o acc zs n i => kx (.exit 2) ⟨[(6, .b false), (9, .o 0 1), (13, .v 22 (.l zs)), (114, .i .i64 n), (115, .i .i64 i)], (.n (some (.row 35 1 acc false true)) .e .e), [], 64, some []⟩
  | .r acc zs n i => kx (.ret) ⟨[(6, .b false), (9, .o 0 1), (13, .v 22 (.l zs)), (114, .i .i64 n), (115, .i .i64 i)], (.n (some (.row 35 1 acc false true)) .e .e), [], 64, some []⟩
def extL2 : Vm.St → Option PL2
  | ⟨[(6, .b false), (9, .o 0 1), (13, .v 22 (.l zs)), (114, .i .i64 n), (115, .i .i64 i)], (.n (some (.row 35 1 acc false true)) .e .e), [], 1, some []⟩ => some (.m acc zs n i)
  | _ => none
theorem extL2_ok (τ : Vm.St) (x : PL2) (h : extL2 τ = some x) : τ = tmL2 x := by
  unfold extL2 at h
  split at h <;> first | (cases h; rfl) | cases h
theorem stepL2 (R : Type) (of : Nat → Option Ob) (x : PL2) (K : Vm.St → Option R) (kx : Exit → Vm.St → Option R) : execC T K23 (fun _ => none) false FU (ntOf Tryz.prog 3) of R (lp (codeOf Tryz.prog 3) 1) (tmL2 x) (sortN 0 [999999, 6, 9, 13, 114, 115] 64 K kx) = BL2 R x (fun x' => K (tmL2 x')) (ekL2 R kx) := by
  cases x
  · kernel_rfl
noncomputable def HL2 : LS := loopH T K23 (fun _ => none) (ntOf Tryz.prog 3) (lp (codeOf Tryz.prog 3) 1) 0 [999999, 6, 9, 13, 114, 115] 64 extL2 BL2 ekL2
theorem HL2_ok : LoopTk Tryz.prog T (ntOf Tryz.prog 3) 0 (lp (codeOf Tryz.prog 3) 1) HL2 :=
  loopH_ok follows T_ok hK23 hS23 loNat_none (loopsOK_none _) tmL2 extL2_ok stepL2
noncomputable def LoLa : Nat → LC := atN 0 [(10, HL1), (22, HL2)]
theorem LoLa_ok : LoopsC Tryz.prog T 3 LoLa := loopsC_at 0 (List.forall_mem_cons.2 ⟨HL1_ok.1, List.forall_mem_cons.2 ⟨HL2_ok.1, fun _ h => by cases h⟩⟩) 2 (by kernel_rfl) ⟨⟨trivial, loI (s0 := HL1) (by kernel_rfl) HL1_ok⟩, loI (s0 := HL2) (by kernel_rfl) HL2_ok⟩
theorem run_1 (nm ls bs : List V) : runFC Tryz.prog T K23 LoLa false FU 3 Unit (mkAs T [9, 22, 23] [.s nm, .l ls, .l bs]) (fun _ => none) 0 tellT = (ln ls.length <| bif ilt 40 (ls.length : Nat) then some () else ln bs.length <| bif ilt 3000 (bs.length : Nat) then some () else ln nm.length <| bif ilt 100 (nm.length : Nat) then some () else leP nm bs (leL nm ls)) := by kernel_rfl
theorem run_2 (nm ls : List V) : runFC Tryz.prog T K23 LoLa false FU 3 Unit (mkAs T [9, 22, 23] [.s nm, .l ls, .n]) (fun _ => none) 0 tellT = (ln ls.length <| bif ilt 40 (ls.length : Nat) then some () else ln nm.length <| bif ilt 100 (nm.length : Nat) then some () else leL nm ls) := by kernel_rfl
theorem run_3 (nm bs : List V) : runFC Tryz.prog T K23 LoLa false FU 3 Unit (mkAs T [9, 22, 23] [.s nm, .n, .l bs]) (fun _ => none) 0 tellT = (ln bs.length <| bif ilt 3000 (bs.length : Nat) then some () else ln nm.length <| bif ilt 100 (nm.length : Nat) then some () else leP nm bs (leC nm [])) := by kernel_rfl
theorem run_4 (nm : List V) : runFC Tryz.prog T K23 LoLa false FU 3 Unit (mkAs T [9, 22, 23] [.s nm, .n, .n]) (fun _ => none) 0 tellT = (ln nm.length <| bif ilt 100 (nm.length : Nat) then some () else leC nm []) := by kernel_rfl
theorem leL_law {nm ls : List V} (hd : ∀ e ∈ ls, DEnt.has e) (hm : ∀ e ∈ ls, DEnt.sm e) (hl : ls.length ≤ 40) : leL nm ls = some () := by
  have hq := fq_big
  unfold leL
  rw [ln_in (by omega)]
  exact l1_law ls [] [] (hid FU) hd hm (fun e he => by cases he) rfl (by simp only [List.length_nil]; omega) (by omega)
theorem lim_or {n m : Nat} {k : Option Unit} (h : n ≤ 9223372036854775807) (hk : n ≤ m → k = some ()) : (ln n <| bif ilt (m : Nat) (n : Nat) then some () else k) = some () := by
  rw [ln_in h, ilt_nat]
  by_cases hc : m < n
  · simp [hc]
  · simp only [hc, decide_false, cond_false]; exact hk (by omega)
theorem law_run (xs : List V) (hd : D.hasL [.str, .slice DEnt, .slice (.int .u8)] xs) (hm : D.smL [.str, .slice DEnt, .slice (.int .u8)] xs) : runFC Tryz.prog T (runAC Tryz.prog T tab23 false FU 4) LoLa false FU 3 Unit (mkAs T [9, 22, 23] xs) (fun _ => none) 0 tellT = some () := by
  obtain ⟨a, b, c, rfl, ha, hb, hc⟩ := hasL3 hd
  obtain ⟨nm, rfl, _⟩ := ha
  obtain ⟨m1, m2, m3, _⟩ := hm
  have m1 : (nm.map nv).length ≤ 9223372036854775807 := m1
  have c0 : leC (nm.map nv) [] = some () := leC_law (fun e he => by cases he) (by simp)
  rcases hb with rfl | ⟨ls, rfl, hls⟩ <;> rcases hc with rfl | ⟨bs, rfl, hbs⟩
  · exact (run_4 _).trans (lim_or m1 fun _ => c0)
  · obtain ⟨ns, rfl, hn⟩ := u8s hbs
    have m3 : (ns.map nv).length ≤ 9223372036854775807 := m3.1
    refine (run_3 _ _).trans (lim_or m3 fun h3 => lim_or m1 fun _ => ?_)
    rw [leP_law hn (by simpa using h3)]; exact c0
  · have m2' : ls.length ≤ 9223372036854775807 := m2.1
    exact (run_2 _ _).trans (lim_or m2' fun h2 => lim_or m1 fun _ => leL_law hls m2.2 h2)
  · obtain ⟨ns, rfl, hn⟩ := u8s hbs
    have m2' : ls.length ≤ 9223372036854775807 := m2.1
    have m3 : (ns.map nv).length ≤ 9223372036854775807 := m3.1
    refine (run_1 _ _ _).trans (lim_or m2' fun h2 => lim_or m3 fun h3 => lim_or m1 fun _ => ?_)
    rw [leP_law hn (by simpa using h3)]; exact leL_law hls m2.2 h2
theorem law_nat : (runFC Tryz.prog T (runAC Tryz.prog T tab23 false FU 4) LoLa false FU 3).nat := runFC_nat (runAC_nat tab23_ok 4) LoLa_ok.nat
theorem law_ok : SymOK Tryz.prog T 3 (runFC Tryz.prog T (runAC Tryz.prog T tab23 false FU 4) LoLa false FU 3).dir := runFC_ok follows T_ok (runAC_nat tab23_ok 4) (runAC_ok follows T_ok tab23_ok 4) LoLa_ok.nat LoLa_ok.ok
end Go.Proofs.YtkaobamodajniaaGreat
end

/- What functions compute, and the law run. -/
import Derived.Test.YtkaobamodajniaaGreatTy
import Derived.Test.YtkaobamodajniaaGreatVm10
import Derived.Test.YtkaobamodajniaaGreatVm12
import Derived.Test.YtkaobamodajniaaGreatVm11
import Derived.Test.YtkaobamodajniaaGreatVm13
set_option linter.constructorNameAsVariable false
set_option linter.unusedVariables false
set_option linter.unusedSimpArgs false
noncomputable section
namespace Go.Proofs.YtkaobamodajniaaGreat
open Go.Vm
set_option maxRecDepth 100000
set_option linter.unusedVariables false
noncomputable def tab1 : List (Nat × SymC) := []
theorem tab1_ok : TabOK Tryz.prog T tab1 := tabOK_nil
noncomputable def K1 : KC := runAC Tryz.prog T tab1 false FU 4
theorem hK1 : K1.nat := runAC_nat tab1_ok 4
theorem hS1 : KOK Tryz.prog T K1.dir := runAC_ok follows T_ok tab1_ok 4
def tmSpA : PSpA → Vm.St
  | .m x z i w => ⟨[(0, .v 23 x), (2, .p 0 200 []), (3, .p 1 200 []), (8, .i .i64 i)], (.n (some (.box 200 (.v 200 z) false)) (.n (some (.box 200 (.v 200 w) false)) .e .e) .e), [], 2, some []⟩
def ekSpA (R : Type) (kx : Exit → Vm.St → Option R) : QSpA → Option R
  | .o x z i w => kx (.exit 0) ⟨[(0, .v 23 x), (2, .p 0 200 []), (3, .p 1 200 []), (8, .i .i64 i)], (.n (some (.box 200 (.v 200 z) false)) (.n (some (.box 200 (.v 200 w) false)) .e .e) .e), [], 16, some []⟩
def extSpA : Vm.St → Option PSpA
  | ⟨[(0, .v 23 x), (2, .p 0 200 []), (3, .p 1 200 []), (8, .i .i64 i)], (.n (some (.box 200 (.v 200 z) false)) (.n (some (.box 200 (.v 200 w) false)) .e .e) .e), [], 2, some []⟩ => some (.m x z i w)
  | _ => none
theorem extSpA_ok (τ : Vm.St) (x : PSpA) (h : extSpA τ = some x) : τ = tmSpA x := by
  unfold extSpA at h
  split at h <;> first | (cases h; rfl) | cases h
theorem stepSpA (R : Type) (of : Nat → Option Ob) (x : PSpA) (K : Vm.St → Option R) (kx : Exit → Vm.St → Option R) : execC T K1 (fun _ => none) false FU (ntOf Tryz.prog 122) of R (lp (codeOf Tryz.prog 122) 0) (tmSpA x) (sortN 0 [0, 2, 3, 8] 16 K kx) = BSpA R x (fun x' => K (tmSpA x')) (ekSpA R kx) := by
  cases x
  · kernel_rfl
noncomputable def HSpA : LS := loopH T K1 (fun _ => none) (ntOf Tryz.prog 122) (lp (codeOf Tryz.prog 122) 0) 0 [0, 2, 3, 8] 16 extSpA BSpA ekSpA
theorem HSpA_ok : LoopTk Tryz.prog T (ntOf Tryz.prog 122) 0 (lp (codeOf Tryz.prog 122) 0) HSpA :=
  loopH_ok follows T_ok hK1 hS1 loNat_none (loopsOK_none _) tmSpA extSpA_ok stepSpA
def tmSpB : PSpB → Vm.St
  | .m z i w => ⟨[(2, .p 0 200 []), (3, .p 1 200 []), (5, .i .i64 i)], (.n (some (.box 200 (.v 200 z) false)) (.n (some (.box 200 (.v 200 w) false)) .e .e) .e), [], 2, some []⟩
def ekSpB (R : Type) (kx : Exit → Vm.St → Option R) : QSpB → Option R
  | .o z i w => kx (.exit 2) ⟨[(2, .p 0 200 []), (3, .p 1 200 []), (5, .i .i64 i)], (.n (some (.box 200 (.v 200 z) false)) (.n (some (.box 200 (.v 200 w) false)) .e .e) .e), [], 16, some []⟩
def extSpB : Vm.St → Option PSpB
  | ⟨[(2, .p 0 200 []), (3, .p 1 200 []), (5, .i .i64 i)], (.n (some (.box 200 (.v 200 z) false)) (.n (some (.box 200 (.v 200 w) false)) .e .e) .e), [], 2, some []⟩ => some (.m z i w)
  | _ => none
theorem extSpB_ok (τ : Vm.St) (x : PSpB) (h : extSpB τ = some x) : τ = tmSpB x := by
  unfold extSpB at h
  split at h <;> first | (cases h; rfl) | cases h
theorem stepSpB (R : Type) (of : Nat → Option Ob) (x : PSpB) (K : Vm.St → Option R) (kx : Exit → Vm.St → Option R) : execC T K1 (fun _ => none) false FU (ntOf Tryz.prog 122) of R (lp (codeOf Tryz.prog 122) 1) (tmSpB x) (sortN 0 [2, 3, 5] 16 K kx) = BSpB R x (fun x' => K (tmSpB x')) (ekSpB R kx) := by
  cases x
  · kernel_rfl
noncomputable def HSpB : LS := loopH T K1 (fun _ => none) (ntOf Tryz.prog 122) (lp (codeOf Tryz.prog 122) 1) 0 [2, 3, 5] 16 extSpB BSpB ekSpB
theorem HSpB_ok : LoopTk Tryz.prog T (ntOf Tryz.prog 122) 0 (lp (codeOf Tryz.prog 122) 1) HSpB :=
  loopH_ok follows T_ok hK1 hS1 loNat_none (loopsOK_none _) tmSpB extSpB_ok stepSpB
noncomputable def LoSp : Nat → LC := atN 0 [(3, HSpA), (8, HSpB)]
theorem LoSp_ok : LoopsC Tryz.prog T 122 LoSp := loopsC_at 0 (List.forall_mem_cons.2 ⟨HSpA_ok.1, List.forall_mem_cons.2 ⟨HSpB_ok.1, fun _ h => by cases h⟩⟩) 2 (by kernel_rfl) ⟨⟨trivial, loI (s0 := HSpA) (by kernel_rfl) HSpA_ok⟩, loI (s0 := HSpB) (by kernel_rfl) HSpB_ok⟩
noncomputable def Gsp : FC := fun R xs k => match xs with
  | [x] => lpC (BSpA R) (hid FU) (.m x z64 0 z64) (fun | .o _ z _ w => lpC (BSpB R) (hid FU) (.m z 16 w) (fun | .o _ _ w => k [.d 200 w]))
  | _ => none
theorem run_sp (R : Type) (x : V) (k : List Rs → Option R) : runFC Tryz.prog T K1 LoSp false FU 122 R (mkAs T [23] [x]) (fun _ => none) 0 (fun out => ob (resC T false [.d 200] out) k) = Gsp R [x] k := by kernel_rfl
noncomputable def tab2 : List (Nat × SymC) := (122, pureS T false [23] (Fsp 200)) :: tab1
theorem tab2_ok : TabOK Tryz.prog T tab2 := by
  refine pure_run (sh := false) (rk := [.d 200]) (d := 4) (fu := FU) (Lo := LoSp) (G := Gsp) follows T_ok tab1_ok (Fsp_nat 200) (by kernel_rfl) LoSp_ok (fun R xs k htv => ?_) (fun xs rs htv hrs => ?_)
  · match xs, htv.len with
    | [x], _ => exact run_sp R x k
  · match xs, htv, htv.len with
    | [x], htv, _ =>
      obtain ⟨e, cs, hx⟩ := htv.head
      obtain ⟨bs, h1, h2⟩ := tv_slice (T := T) (el := 5) (kd := .u8) (by kernel_rfl) (by kernel_rfl) rfl hx
      simp only [Fsp] at hrs
      cases hl : Nat.ble 64 x.els.length with
      | false => rw [hl] at hrs; cases hrs
      | true =>
        rw [hl] at hrs
        have hl := Nat.le_of_ble_eq_true hl
        rw [h1, List.length_map] at hl
        exact (spread_law h1 (lt256 h2) hl HID (fun w => some [Rs.d 200 w])).trans hrs
noncomputable def K2 : KC := runAC Tryz.prog T tab2 false FU 4
theorem hK2 : K2.nat := runAC_nat tab2_ok 4
theorem hS2 : KOK Tryz.prog T K2.dir := runAC_ok follows T_ok tab2_ok 4
def tmMxA : PMxA → Vm.St
  | .m s z w k x i => ⟨[(2, .p 0 191 []), (4, .p 1 191 []), (5, .p 3 200 []), (6, .p 4 200 []), (7, .p 5 191 []), (18, .i .i64 i)], (.n (some (.box 191 (.v 191 s) false)) (.n (some (.box 191 (.v 191 z) false)) (.n (some (.box 200 (.v 200 w) false)) .e .e) (.n (some (.box 191 (.v 191 x) false)) .e .e)) (.n none (.n (some (.box 200 (.v 200 k) false)) .e .e) .e)), [], 6, some []⟩
def ekMxA (R : Type) (kx : Exit → Vm.St → Option R) : QMxA → Option R
  | .o s z w k x i => kx (.exit 0) ⟨[(2, .p 0 191 []), (4, .p 1 191 []), (5, .p 3 200 []), (6, .p 4 200 []), (7, .p 5 191 []), (18, .i .i64 i)], (.n (some (.box 191 (.v 191 s) false)) (.n (some (.box 191 (.v 191 z) false)) (.n (some (.box 200 (.v 200 w) false)) .e .e) (.n (some (.box 191 (.v 191 x) false)) .e .e)) (.n none (.n (some (.box 200 (.v 200 k) false)) .e .e) .e)), [], 16, some []⟩
def extMxA : Vm.St → Option PMxA
  | ⟨[(2, .p 0 191 []), (4, .p 1 191 []), (5, .p 3 200 []), (6, .p 4 200 []), (7, .p 5 191 []), (18, .i .i64 i)], (.n (some (.box 191 (.v 191 s) false)) (.n (some (.box 191 (.v 191 z) false)) (.n (some (.box 200 (.v 200 w) false)) .e .e) (.n (some (.box 191 (.v 191 x) false)) .e .e)) (.n none (.n (some (.box 200 (.v 200 k) false)) .e .e) .e)), [], 6, some []⟩ => some (.m s z w k x i)
  | _ => none
theorem extMxA_ok (τ : Vm.St) (x : PMxA) (h : extMxA τ = some x) : τ = tmMxA x := by
  unfold extMxA at h
  split at h <;> first | (cases h; rfl) | cases h
theorem stepMxA (R : Type) (of : Nat → Option Ob) (x : PMxA) (K : Vm.St → Option R) (kx : Exit → Vm.St → Option R) : execC T K2 (fun _ => none) false FU (ntOf Tryz.prog 115) of R (lp (codeOf Tryz.prog 115) 0) (tmMxA x) (sortN 0 [2, 4, 5, 6, 7, 18] 16 K kx) = BMxA R x (fun x' => K (tmMxA x')) (ekMxA R kx) := by
  cases x
  · kernel_rfl
noncomputable def HMxA : LS := loopH T K2 (fun _ => none) (ntOf Tryz.prog 115) (lp (codeOf Tryz.prog 115) 0) 0 [2, 4, 5, 6, 7, 18] 16 extMxA BMxA ekMxA
theorem HMxA_ok : LoopTk Tryz.prog T (ntOf Tryz.prog 115) 0 (lp (codeOf Tryz.prog 115) 0) HMxA :=
  loopH_ok follows T_ok hK2 hS2 loNat_none (loopsOK_none _) tmMxA extMxA_ok stepMxA
def tmMxB : PMxB → Vm.St
  | .m s z x i => ⟨[(2, .p 0 191 []), (4, .p 1 191 []), (7, .p 5 191 []), (98, .i .i64 i)], (.n (some (.box 191 (.v 191 s) false)) (.n (some (.box 191 (.v 191 z) false)) .e (.n (some (.box 191 (.v 191 x) false)) .e .e)) .e), [], 6, some []⟩
def ekMxB (R : Type) (kx : Exit → Vm.St → Option R) : QMxB → Option R
  | .o s z x i => kx (.exit 2) ⟨[(2, .p 0 191 []), (4, .p 1 191 []), (7, .p 5 191 []), (98, .i .i64 i)], (.n (some (.box 191 (.v 191 s) false)) (.n (some (.box 191 (.v 191 z) false)) .e (.n (some (.box 191 (.v 191 x) false)) .e .e)) .e), [], 16, some []⟩
def extMxB : Vm.St → Option PMxB
  | ⟨[(2, .p 0 191 []), (4, .p 1 191 []), (7, .p 5 191 []), (98, .i .i64 i)], (.n (some (.box 191 (.v 191 s) false)) (.n (some (.box 191 (.v 191 z) false)) .e (.n (some (.box 191 (.v 191 x) false)) .e .e)) .e), [], 6, some []⟩ => some (.m s z x i)
  | _ => none
theorem extMxB_ok (τ : Vm.St) (x : PMxB) (h : extMxB τ = some x) : τ = tmMxB x := by
  unfold extMxB at h
  split at h <;> first | (cases h; rfl) | cases h
theorem stepMxB (R : Type) (of : Nat → Option Ob) (x : PMxB) (K : Vm.St → Option R) (kx : Exit → Vm.St → Option R) : execC T K2 (fun _ => none) false FU (ntOf Tryz.prog 115) of R (lp (codeOf Tryz.prog 115) 1) (tmMxB x) (sortN 0 [2, 4, 7, 98] 16 K kx) = BMxB R x (fun x' => K (tmMxB x')) (ekMxB R kx) := by
  cases x
  · kernel_rfl
noncomputable def HMxB : LS := loopH T K2 (fun _ => none) (ntOf Tryz.prog 115) (lp (codeOf Tryz.prog 115) 1) 0 [2, 4, 7, 98] 16 extMxB BMxB ekMxB
theorem HMxB_ok : LoopTk Tryz.prog T (ntOf Tryz.prog 115) 0 (lp (codeOf Tryz.prog 115) 1) HMxB :=
  loopH_ok follows T_ok hK2 hS2 loNat_none (loopsOK_none _) tmMxB extMxB_ok stepMxB
noncomputable def LoMx : Nat → LC := atN 0 [(3, HMxA), (11, HMxB)]
theorem LoMx_ok : LoopsC Tryz.prog T 115 LoMx := loopsC_at 0 (List.forall_mem_cons.2 ⟨HMxA_ok.1, List.forall_mem_cons.2 ⟨HMxB_ok.1, fun _ h => by cases h⟩⟩) 2 (by kernel_rfl) ⟨⟨trivial, loI (s0 := HMxA) (by kernel_rfl) HMxA_ok⟩, loI (s0 := HMxB) (by kernel_rfl) HMxB_ok⟩
noncomputable def Gmx : FC := fun R xs k => match xs with
  | [s, b] => bif Nat.ble 64 b.els.length then lpC (BMxA R) (hid FU) (.m s z8 (spW b) keysV s 0) (fun | .o s z _ _ x _ => lpC (BMxB R) (hid FU) (.m s z x 0) (fun | .o s _ _ _ => k [.d 191 s])) else none
  | _ => none
theorem run_mx (R : Type) (s b : V) (k : List Rs → Option R) : runFC Tryz.prog T K2 LoMx false FU 115 R (mkAs T [191, 23] [s, b]) (fun _ => none) 0 (fun out => ob (resC T false [.d 191] out) k) = Gmx R [s, b] k := by kernel_rfl
noncomputable def tab3 : List (Nat × SymC) := (115, pureS T false [191, 23] (Fmx 191)) :: tab2
theorem tab3_ok : TabOK Tryz.prog T tab3 := by
  refine pure_run (sh := false) (rk := [.d 191]) (d := 4) (fu := FU) (Lo := LoMx) (G := Gmx) follows T_ok tab2_ok (Fmx_nat 191) (by kernel_rfl) LoMx_ok (fun R xs k htv => ?_) (fun xs rs htv hrs => ?_)
  · match xs, htv.len with
    | [s, b], _ => exact run_mx R s b k
  · match xs, htv, htv.len with
    | [s, b], htv, _ =>
      obtain ⟨e, cs, hs⟩ := htv.head
      obtain ⟨e2, cs2, hx⟩ := htv.tail.head
      obtain ⟨bs, h1, h2⟩ := tv_slice (T := T) (el := 5) (kd := .u8) (by kernel_rfl) (by kernel_rfl) rfl hx
      obtain ⟨ns, rfl, n1, n2⟩ := tv_arr (T := T) (n := 8) (el := 31) (kd := .u32) (by kernel_rfl) (by kernel_rfl) rfl hs
      obtain ⟨s8, hs8, hok⟩ := stV_of n1 n2
      rw [hs8] at hrs ⊢
      simp only [Fmx] at hrs
      cases hl : Nat.ble 64 b.els.length with
      | false => rw [hl] at hrs; cases hrs
      | true =>
        rw [hl] at hrs
        simp only [Gmx, hl, cond_true]
        have hl := Nat.le_of_ble_eq_true hl
        rw [h1, List.length_map] at hl
        exact (mix_law hok h1 (lt256 h2) hl HID (fun w => some [Rs.d 191 w])).trans hrs
noncomputable def K3 : KC := runAC Tryz.prog T tab3 false FU 4
theorem hK3 : K3.nat := runAC_nat tab3_ok 4
theorem hS3 : KOK Tryz.prog T K3.dir := runAC_ok follows T_ok tab3_ok 4
end Go.Proofs.YtkaobamodajniaaGreat

namespace Go.Proofs.YtkaobamodajniaaGreat
open Go.Vm
set_option maxRecDepth 100000
set_option linter.unusedVariables false
set_option linter.constructorNameAsVariable false
theorem run_wf8 (bs : List V) (n : Int) : runFC Tryz.prog T K3 (fun _ _ => none) false FU 31 (List Rs) (mkAs T [23, 68, 3] [.l bs, .i n, .i 8]) (fun _ => none) 0 (fun out => resC T true [.r 5] out) = (lim (0 + bs.length) <| pFix 8 n bs (fun xs => some [.r 5 xs false])) := by kernel_rfl
theorem run_wf8N (n : Int) : runFC Tryz.prog T K3 (fun _ _ => none) false FU 31 (List Rs) (mkAs T [23, 68, 3] [.n, .i n, .i 8]) (fun _ => none) 0 (fun out => resC T true [.r 5] out) = some [.r 5 (leV 8 n) false] := by kernel_rfl
theorem run_wf4 (bs : List V) (n : Int) : runFC Tryz.prog T K3 (fun _ _ => none) false FU 31 (List Rs) (mkAs T [23, 68, 3] [.l bs, .i n, .i 4]) (fun _ => none) 0 (fun out => resC T true [.r 5] out) = (lim (0 + bs.length) <| pFix 4 n bs (fun xs => some [.r 5 xs false])) := by kernel_rfl
theorem run_wf4N (n : Int) : runFC Tryz.prog T K3 (fun _ _ => none) false FU 31 (List Rs) (mkAs T [23, 68, 3] [.n, .i n, .i 4]) (fun _ => none) 0 (fun out => resC T true [.r 5] out) = some [.r 5 (leV 4 n) false] := by kernel_rfl
noncomputable def tab4 : List (Nat × SymC) := (31, pureS T true [23, 68, 3] (gF wFixg (wFixr 5))) :: tab3
theorem tab4_ok : TabOK Tryz.prog T tab4 := by
  refine pure_conG (sh := true) (rk := [.r 5]) (d := 4) (fu := FU) (Lo := (fun _ _ => none)) (ds := [.slice (.int .u8), .int .u64, .int .i64]) follows T_ok tab3_ok (by kernel_rfl) loopsC_none 40 (by kernel_rfl) (fun xs hd hg => ?_)
  obtain ⟨a, b, c, rfl, ha, hb, hc⟩ := hasL3 hd
  obtain ⟨n, rfl, _⟩ := hb
  obtain ⟨s, rfl, _⟩ := hc
  obtain ⟨hs, hg⟩ := wFix_at hg
  rcases hs with rfl | rfl
  ·
    · rcases bytes_v ha with rfl | ⟨ys, rfl⟩
      · rw [wFixr_8]; exact run_wf8N n
      · rw [wFixr_8]
        have hl : ys.length ≤ 268435456 := shb_le hg
        refine (run_wf8 ys n).trans ?_
        rw [lim_in (by omega), pFix_law _ _ _ _ (by show ys.length + 8 ≤ 1073741824; omega)]; rfl
  ·
    · rcases bytes_v ha with rfl | ⟨ys, rfl⟩
      · rw [wFixr_4]; exact run_wf4N n
      · rw [wFixr_4]
        have hl : ys.length ≤ 268435456 := shb_le hg
        refine (run_wf4 ys n).trans ?_
        rw [lim_in (by omega), pFix_law _ _ _ _ (by show ys.length + 4 ≤ 1073741824; omega)]; rfl
noncomputable def K4 : KC := runAC Tryz.prog T tab4 false FU 4
theorem hK4 : K4.nat := runAC_nat tab4_ok 4
theorem hS4 : KOK Tryz.prog T K4.dir := runAC_ok follows T_ok tab4_ok 4
theorem run_wt (bs xs : List V) : runFC Tryz.prog T K4 (fun _ _ => none) false FU 32 (List Rs) (mkAs T [23, 112] [.l bs, .l [.l xs]]) (fun _ => none) 0 (fun out => resC T true [.r 5] out) = (lim (0 + bs.length) <| txt1 bs xs (fun ys => some [.r 5 ys false])) := by kernel_rfl
theorem run_wt0 (bs : List V) : runFC Tryz.prog T K4 (fun _ _ => none) false FU 32 (List Rs) (mkAs T [23, 112] [.l bs, .l [.n]]) (fun _ => none) 0 (fun out => resC T true [.r 5] out) = (lim (0 + bs.length) <| txt1 bs [] (fun ys => some [.r 5 ys false])) := by kernel_rfl
theorem run_wtN (xs : List V) : runFC Tryz.prog T K4 (fun _ _ => none) false FU 32 (List Rs) (mkAs T [23, 112] [.n, .l [.l xs]]) (fun _ => none) 0 (fun out => resC T true [.r 5] out) = (txt1 [] xs (fun ys => some [.r 5 ys false])) := by kernel_rfl
theorem run_wtN0  : runFC Tryz.prog T K4 (fun _ _ => none) false FU 32 (List Rs) (mkAs T [23, 112] [.n, .l [.n]]) (fun _ => none) 0 (fun out => resC T true [.r 5] out) = (txt1 [] [] (fun ys => some [.r 5 ys false])) := by kernel_rfl
noncomputable def tab5 : List (Nat × SymC) := (32, pureS T true [23, 112] (gF wTxtg (wTxtr 5))) :: tab4
theorem tab5_ok : TabOK Tryz.prog T tab5 := by
  refine pure_conG (sh := true) (rk := [.r 5]) (d := 4) (fu := FU) (Lo := (fun _ _ => none)) (ds := [.slice (.int .u8), .slice (.slice (.int .u8))]) follows T_ok tab4_ok (by kernel_rfl) loopsC_none 40 (by kernel_rfl) (fun xs hd hg => ?_)
  obtain ⟨a, b, rfl, ha, hb⟩ := hasL2 hd
  rcases hb with rfl | ⟨l, rfl, hl⟩
  · exact absurd (show false = true from hg) (by decide)
  match l, hl, hg with
  | [x], hl, hg =>
    have hg := (Bool.and_eq_true _ _).mp (show (shb a && shb x) = true from hg)
    rcases bytes_v ha with rfl | ⟨ys, rfl⟩ <;> rcases bytes_v (hl x (List.mem_singleton.2 rfl)) with rfl | ⟨zs, rfl⟩
    · exact (run_wtN0).trans (txt1_law (by simp) (by simp))
    ·
      have hl2 : zs.length ≤ 268435456 := shb_le hg.2
      refine (run_wtN zs).trans ?_
      rw [txt1_law (by simp) (by omega)]; rfl
    ·
      have hl1 : ys.length ≤ 268435456 := shb_le hg.1
      refine (run_wt0 ys ).trans ?_
      rw [lim_in (by omega), txt1_law (by omega) (by simp)]; rfl
    ·
      have hl1 : ys.length ≤ 268435456 := shb_le hg.1
      have hl2 : zs.length ≤ 268435456 := shb_le hg.2
      refine (run_wt ys zs).trans ?_
      rw [lim_in (by omega), txt1_law (by omega) (by omega)]; rfl
noncomputable def K5 : KC := runAC Tryz.prog T tab5 false FU 4
theorem hK5 : K5.nat := runAC_nat tab5_ok 4
theorem hS5 : KOK Tryz.prog T K5.dir := runAC_ok follows T_ok tab5_ok 4
theorem run_wc (bs : List V) (n : Int) : runFC Tryz.prog T K5 (fun _ _ => none) false FU 30 (List Rs) (mkAs T [23, 68] [.l bs, .i n]) (fun _ => none) 0 (fun out => resC T true [.r 5] out) = cntE n bs (fun ys => some [.r 5 ys false]) := by kernel_rfl
theorem run_wcN (n : Int) : runFC Tryz.prog T K5 (fun _ _ => none) false FU 30 (List Rs) (mkAs T [23, 68] [.n, .i n]) (fun _ => none) 0 (fun out => resC T true [.r 5] out) = cntC n [] (fun ys => some [.r 5 ys false]) := by kernel_rfl
noncomputable def tab6 : List (Nat × SymC) := (30, pureS T true [23, 68] (gF wCntg (wCntr 5))) :: tab5
theorem tab6_ok : TabOK Tryz.prog T tab6 := by
  refine pure_conG (sh := true) (rk := [.r 5]) (d := 4) (fu := FU) (Lo := (fun _ _ => none)) (ds := [.slice (.int .u8), .int .u64]) follows T_ok tab5_ok (by kernel_rfl) loopsC_none 40 (by kernel_rfl) (fun xs hd hg => ?_)
  obtain ⟨a, b, rfl, ha, hb⟩ := hasL2 hd
  obtain ⟨n, rfl, _⟩ := hb
  rcases bytes_v ha with rfl | ⟨ys, rfl⟩
  · refine (run_wcN n).trans ?_
    rw [cntC_law (by simp)]; rfl
  · have hl : ys.length ≤ 268435456 := shb_le hg
    refine (run_wc ys n).trans ?_
    rw [cntE_law (by omega)]; rfl
noncomputable def K6 : KC := runAC Tryz.prog T tab6 false FU 4
theorem hK6 : K6.nat := runAC_nat tab6_ok 4
theorem hS6 : KOK Tryz.prog T K6.dir := runAC_ok follows T_ok tab6_ok 4
theorem run_wr (hs : List V) (n : Int) : runFC Tryz.prog T K6 (fun _ _ => none) false FU 33 (List Rs) (mkAs T [33] [.l [.l hs, .i n]]) (fun _ => none) 0 (fun out => resC T true [.r 5] out) = bif shb (.l ((hs.drop 0).take 32)) then some [.r 5 ((hs.drop 0).take 32 ++ leV 4 (WU n)) false] else none := by kernel_rfl
noncomputable def tab7 : List (Nat × SymC) := (33, pureS T true [33] (gF wRefg (wRefr 5))) :: tab6
theorem tab7_ok : TabOK Tryz.prog T tab7 := by
  refine pure_conG (sh := true) (rk := [.r 5]) (d := 4) (fu := FU) (Lo := (fun _ _ => none)) (ds := [.struct [.arr 32 (.int .u8), .int .u32]]) follows T_ok tab6_ok (by kernel_rfl) loopsC_none 40 (by kernel_rfl) (fun xs hd hg => ?_)
  obtain ⟨a, rfl, ha⟩ := hasL1 hd
  obtain ⟨hs, n, rfl, hl, h1, h2⟩ := ref_v ha
  obtain ⟨m, rfl⟩ := Int.eq_ofNat_of_zero_le h1
  refine (run_wr hs _).trans ?_
  rw [show (hs.drop 0).take 32 = hs from List.take_of_length_le (by simp; omega), wu64_lt (by omega), show shb (.l hs) = true from Nat.ble_eq_true_of_le (by show hs.length ≤ 268435456; omega)]; rfl
noncomputable def K7 : KC := runAC Tryz.prog T tab7 false FU 4
theorem hK7 : K7.nat := runAC_nat tab7_ok 4
theorem hS7 : KOK Tryz.prog T K7.dir := runAC_ok follows T_ok tab7_ok 4
theorem run_dc (n : Int) : runFC Tryz.prog T K7 (fun _ _ => none) false FU 26 (List Rs) (mkAs T [68] [.i n]) (fun _ => none) 0 (fun out => resC T true [.r 5] out) = cntD n (fun ys => some [.r 5 ys false]) := by kernel_rfl
noncomputable def tab8 : List (Nat × SymC) := (26, pureS T true [68] (gF dCntg (dCntr 5))) :: tab7
theorem tab8_ok : TabOK Tryz.prog T tab8 := by
  refine pure_conG (sh := true) (rk := [.r 5]) (d := 4) (fu := FU) (Lo := (fun _ _ => none)) (ds := [.int .u64]) follows T_ok tab7_ok (by kernel_rfl) loopsC_none 40 (by kernel_rfl) (fun xs hd hg => ?_)
  obtain ⟨a, rfl, ha⟩ := hasL1 hd
  obtain ⟨n, rfl, h1, h2⟩ := ha
  simp only [lo, hi] at h1 h2
  refine (run_dc n).trans ?_
  rw [cntD_law h1 (by omega)]; rfl
noncomputable def K8 : KC := runAC Tryz.prog T tab8 false FU 4
theorem hK8 : K8.nat := runAC_nat tab8_ok 4
theorem hS8 : KOK Tryz.prog T K8.dir := runAC_ok follows T_ok tab8_ok 4
theorem run_dt (xs : List V) : runFC Tryz.prog T K8 (fun _ _ => none) false FU 27 (List Rs) (mkAs T [23] [.l xs]) (fun _ => none) 0 (fun out => resC T true [.r 5] out) = (ln xs.length <| lim ((cntL (WU (xs.length : Nat))).length + xs.length) <| some [.r 5 (cntL (WU (xs.length : Nat)) ++ xs) false]) := by kernel_rfl
theorem run_dtN  : runFC Tryz.prog T K8 (fun _ _ => none) false FU 27 (List Rs) (mkAs T [23] [.n]) (fun _ => none) 0 (fun out => resC T true [.r 5] out) = some [.r 5 (txtL []) false] := by kernel_rfl
noncomputable def tab9 : List (Nat × SymC) := (27, pureS T true [23] (gF dTxtg (dTxtr 5))) :: tab8
theorem tab9_ok : TabOK Tryz.prog T tab9 := by
  refine pure_conG (sh := true) (rk := [.r 5]) (d := 4) (fu := FU) (Lo := (fun _ _ => none)) (ds := [.slice (.int .u8)]) follows T_ok tab8_ok (by kernel_rfl) loopsC_none 40 (by kernel_rfl) (fun xs hd hg => ?_)
  obtain ⟨a, rfl, ha⟩ := hasL1 hd
  rcases bytes_v ha with rfl | ⟨ys, rfl⟩
  · exact run_dtN
  · have hl : ys.length ≤ 268435456 := shb_le hg
    have hc := cntL_len (ys.length : Nat)
    refine (run_dt ys).trans ?_
    rw [ln_in (by omega), wu64_lt (by omega), lim_in (by omega)]; rfl
noncomputable def K9 : KC := runAC Tryz.prog T tab9 false FU 4
theorem hK9 : K9.nat := runAC_nat tab9_ok 4
theorem hS9 : KOK Tryz.prog T K9.dir := runAC_ok follows T_ok tab9_ok 4
theorem run_df8 (n : Int) : runFC Tryz.prog T K9 (fun _ _ => none) false FU 28 (List Rs) (mkAs T [68, 3] [.i n, .i 8]) (fun _ => none) 0 (fun out => resC T true [.r 5] out) = some [.r 5 (leD 8 n) false] := by kernel_rfl
theorem run_df4 (n : Int) : runFC Tryz.prog T K9 (fun _ _ => none) false FU 28 (List Rs) (mkAs T [68, 3] [.i n, .i 4]) (fun _ => none) 0 (fun out => resC T true [.r 5] out) = some [.r 5 (leD 4 n) false] := by kernel_rfl
noncomputable def tab10 : List (Nat × SymC) := (28, pureS T true [68, 3] (gF dFixg (dFixr 5))) :: tab9
theorem tab10_ok : TabOK Tryz.prog T tab10 := by
  refine pure_conG (sh := true) (rk := [.r 5]) (d := 4) (fu := FU) (Lo := (fun _ _ => none)) (ds := [.int .u64, .int .i64]) follows T_ok tab9_ok (by kernel_rfl) loopsC_none 40 (by kernel_rfl) (fun xs hd hg => ?_)
  obtain ⟨a, b, rfl, ha, hb⟩ := hasL2 hd
  obtain ⟨n, rfl, h1, h2⟩ := ha
  obtain ⟨s, rfl, _⟩ := hb
  simp only [lo, hi] at h1 h2
  rcases dFix_at hg with rfl | rfl
  · rw [dFixr_8]
    refine (run_df8 n).trans ?_
    rw [leD_leV 8 h1 (by omega)]
  · rw [dFixr_4]
    refine (run_df4 n).trans ?_
    rw [leD_leV 4 h1 (by omega)]
noncomputable def K10 : KC := runAC Tryz.prog T tab10 false FU 4
theorem hK10 : K10.nat := runAC_nat tab10_ok 4
theorem hS10 : KOK Tryz.prog T K10.dir := runAC_ok follows T_ok tab10_ok 4
theorem run_dr (hs : List V) (n : Int) : runFC Tryz.prog T K10 (fun _ _ => none) false FU 29 (List Rs) (mkAs T [33] [.l [.l hs, .i n]]) (fun _ => none) 0 (fun out => resC T true [.r 5] out) = (lim (0 + ((hs.drop 0).take 32).length) <| lim (((hs.drop 0).take 32).length + 4) <| some [.r 5 ((hs.drop 0).take 32 ++ leV 4 (WU n)) false]) := by kernel_rfl
noncomputable def tab11 : List (Nat × SymC) := (29, pureS T true [33] (gF wRefg (wRefr 5))) :: tab10
theorem tab11_ok : TabOK Tryz.prog T tab11 := by
  refine pure_conG (sh := true) (rk := [.r 5]) (d := 4) (fu := FU) (Lo := (fun _ _ => none)) (ds := [.struct [.arr 32 (.int .u8), .int .u32]]) follows T_ok tab10_ok (by kernel_rfl) loopsC_none 40 (by kernel_rfl) (fun xs hd hg => ?_)
  obtain ⟨a, rfl, ha⟩ := hasL1 hd
  obtain ⟨hs, n, rfl, hl, h1, h2⟩ := ref_v ha
  obtain ⟨m, rfl⟩ := Int.eq_ofNat_of_zero_le h1
  refine (run_dr hs _).trans ?_
  rw [show (hs.drop 0).take 32 = hs from List.take_of_length_le (by simp; omega), wu64_lt (by omega), lim_in (by omega), lim_in (by omega)]; rfl
noncomputable def K11 : KC := runAC Tryz.prog T tab11 false FU 4
theorem hK11 : K11.nat := runAC_nat tab11_ok 4
theorem hS11 : KOK Tryz.prog T K11.dir := runAC_ok follows T_ok tab11_ok 4
end Go.Proofs.YtkaobamodajniaaGreat

namespace Go.Proofs.YtkaobamodajniaaGreat
open Go.Vm
set_option maxRecDepth 100000
set_option linter.unusedVariables false
set_option linter.constructorNameAsVariable false
theorem num_n (R : Type) (k : List Rs → Option R) : runFC Tryz.prog T K11 (fun _ _ => none) false FU 50 R (mkAs T [23] [.n]) (fun _ => none) 0 (fun out => ob (resC T false [.d 68] out) k) = k [.d 68 (.i (numE (V.els .n)))] := by kernel_rfl
theorem num_0 (R : Type) (k : List Rs → Option R) : runFC Tryz.prog T K11 (fun _ _ => none) false FU 50 R (mkAs T [23] [.l (List.map nv [])]) (fun _ => none) 0 (fun out => ob (resC T false [.d 68] out) k) = k [.d 68 (.i (numE (List.map nv [])))] := by kernel_rfl
theorem num_1 (R : Type) (k : List Rs → Option R) (a : Nat) : runFC Tryz.prog T K11 (fun _ _ => none) false FU 50 R (mkAs T [23] [.l (List.map nv [a])]) (fun _ => none) 0 (fun out => ob (resC T false [.d 68] out) k) = k [.d 68 (.i (numE (List.map nv [a])))] := by kernel_rfl
theorem num_2 (R : Type) (k : List Rs → Option R) (a b : Nat) : runFC Tryz.prog T K11 (fun _ _ => none) false FU 50 R (mkAs T [23] [.l (List.map nv [a, b])]) (fun _ => none) 0 (fun out => ob (resC T false [.d 68] out) k) = k [.d 68 (.i (numE (List.map nv [a, b])))] := by kernel_rfl
theorem num_3 (R : Type) (k : List Rs → Option R) (a b c : Nat) : runFC Tryz.prog T K11 (fun _ _ => none) false FU 50 R (mkAs T [23] [.l (List.map nv [a, b, c])]) (fun _ => none) 0 (fun out => ob (resC T false [.d 68] out) k) = k [.d 68 (.i (numE (List.map nv [a, b, c])))] := by kernel_rfl
theorem num_4 (R : Type) (k : List Rs → Option R) (a b c d : Nat) : runFC Tryz.prog T K11 (fun _ _ => none) false FU 50 R (mkAs T [23] [.l (List.map nv [a, b, c, d])]) (fun _ => none) 0 (fun out => ob (resC T false [.d 68] out) k) = k [.d 68 (.i (numE (List.map nv [a, b, c, d])))] := by kernel_rfl
theorem num_5 (R : Type) (k : List Rs → Option R) (a b c d e : Nat) : runFC Tryz.prog T K11 (fun _ _ => none) false FU 50 R (mkAs T [23] [.l (List.map nv [a, b, c, d, e])]) (fun _ => none) 0 (fun out => ob (resC T false [.d 68] out) k) = k [.d 68 (.i (numE (List.map nv [a, b, c, d, e])))] := by kernel_rfl
theorem num_6 (R : Type) (k : List Rs → Option R) (a b c d e f : Nat) : runFC Tryz.prog T K11 (fun _ _ => none) false FU 50 R (mkAs T [23] [.l (List.map nv [a, b, c, d, e, f])]) (fun _ => none) 0 (fun out => ob (resC T false [.d 68] out) k) = k [.d 68 (.i (numE (List.map nv [a, b, c, d, e, f])))] := by kernel_rfl
theorem num_7 (R : Type) (k : List Rs → Option R) (a b c d e f g : Nat) : runFC Tryz.prog T K11 (fun _ _ => none) false FU 50 R (mkAs T [23] [.l (List.map nv [a, b, c, d, e, f, g])]) (fun _ => none) 0 (fun out => ob (resC T false [.d 68] out) k) = k [.d 68 (.i (numE (List.map nv [a, b, c, d, e, f, g])))] := by kernel_rfl
theorem num_8 (R : Type) (k : List Rs → Option R) (a b c d e f g h : Nat) : runFC Tryz.prog T K11 (fun _ _ => none) false FU 50 R (mkAs T [23] [.l (List.map nv [a, b, c, d, e, f, g, h])]) (fun _ => none) 0 (fun out => ob (resC T false [.d 68] out) k) = k [.d 68 (.i (numE (List.map nv [a, b, c, d, e, f, g, h])))] := by kernel_rfl
noncomputable def tab12 : List (Nat × SymC) := (50, pureS T false [23] (numF 68)) :: tab11
theorem tab12_ok : TabOK Tryz.prog T tab12 := by
  refine pure_con (sh := false) (rk := [.d 68]) (d := 4) (fu := FU) (Lo := (fun _ _ => none)) follows T_ok tab11_ok (numF_nat 68) (by kernel_rfl) loopsC_none (fun xs rs htv hrs => ?_)
  match xs, htv, htv.len with
  | [x], htv, _ =>
    obtain ⟨e, cs, hx⟩ := htv.head
    rcases tv_bytes (T := T) (t := 23) (el := 5) (by kernel_rfl) (by kernel_rfl) hx with rfl | ⟨ns, rfl, hb⟩
    · have hrs : some [Rs.d 68 (.i (numE (V.els .n)))] = some rs := hrs
      rw [← hrs]
      have h := num_n (List Rs) some
      simp only [ob_id] at h
      exact h
    · obtain ⟨hl, hrs⟩ := numF_at hrs
      rw [hrs]
      match ns, hl with
      | [], _ =>
        have h := num_0 (List Rs) some
        simp only [ob_id] at h
        exact h
      | [a], _ =>
        have h := num_1 (List Rs) some a
        simp only [ob_id] at h
        exact h
      | [a, b], _ =>
        have h := num_2 (List Rs) some a b
        simp only [ob_id] at h
        exact h
      | [a, b, c], _ =>
        have h := num_3 (List Rs) some a b c
        simp only [ob_id] at h
        exact h
      | [a, b, c, d], _ =>
        have h := num_4 (List Rs) some a b c d
        simp only [ob_id] at h
        exact h
      | [a, b, c, d, e], _ =>
        have h := num_5 (List Rs) some a b c d e
        simp only [ob_id] at h
        exact h
      | [a, b, c, d, e, f], _ =>
        have h := num_6 (List Rs) some a b c d e f
        simp only [ob_id] at h
        exact h
      | [a, b, c, d, e, f, g], _ =>
        have h := num_7 (List Rs) some a b c d e f g
        simp only [ob_id] at h
        exact h
      | [a, b, c, d, e, f, g, h], _ =>
        have h := num_8 (List Rs) some a b c d e f g h
        simp only [ob_id] at h
        exact h
      | _ :: _ :: _ :: _ :: _ :: _ :: _ :: _ :: _ :: _, hl => exact absurd hl (by simp)
noncomputable def K12 : KC := runAC Tryz.prog T tab12 false FU 4
theorem hK12 : K12.nat := runAC_nat tab12_ok 4
theorem hS12 : KOK Tryz.prog T K12.dir := runAC_ok follows T_ok tab12_ok 4
theorem run_raw (R : Type) (xs : List V) (err n : Int) (k : List Rs → Option R) : runFC Tryz.prog T K12 (fun _ _ => none) false FU 49 R (.p 0 107 [] :: mkAs T [3] [.i n]) (box0 107 (.l [.l xs, .i err])) 1 (fun out => ob (resM T 107 (.l [.l xs, .i err]) [.d 23] out) k) = rawG 107 23 xs err n k := by kernel_rfl
theorem run_rawN (R : Type) (err n : Int) (k : List Rs → Option R) : runFC Tryz.prog T K12 (fun _ _ => none) false FU 49 R (.p 0 107 [] :: mkAs T [3] [.i n]) (box0 107 (.l [.n, .i err])) 1 (fun out => ob (resM T 107 (.l [.n, .i err]) [.d 23] out) k) = rawN 107 23 err n k := by kernel_rfl
noncomputable def tab13 : List (Nat × SymC) := (49, pureM T 107 [3] (rawF 107 23)) :: tab12
theorem tab13_ok : TabOK Tryz.prog T tab13 := by
  refine pureM_con (rk := [.d 23]) (d := 4) (fu := FU) (Lo := (fun _ _ => none)) follows T_ok tab12_ok (rawF_nat 107 23) (by kernel_rfl) (by kernel_rfl) loopsC_none (fun x xs rs htv hrs => ?_)
  match xs, htv, htv.len with
  | [n], htv, _ =>
    obtain ⟨e, cs, hx⟩ := htv.head
    obtain ⟨e2, cs2, hn⟩ := htv.tail.head
    obtain ⟨n, rfl, _⟩ := tv_int (T := T) (t := 3) (k := .i64) (by kernel_rfl) hn
    obtain ⟨y, err, rfl, _, rfl | ⟨ys, rfl⟩⟩ := tv_two (T := T) (t := 107) (s := 23) (el := 5) (er := 25) (k := .i64) (by kernel_rfl) (by kernel_rfl) (by kernel_rfl) hx
    · have h := (run_rawN (List Rs) err n some).trans (raw_lawN 107 23 hrs)
      simp only [ob_id] at h
      exact h
    · have h := (run_raw (List Rs) ys err n some).trans (raw_law 107 23 hrs)
      simp only [ob_id] at h
      exact h
noncomputable def K13 : KC := runAC Tryz.prog T tab13 false FU 4
theorem hK13 : K13.nat := runAC_nat tab13_ok 4
theorem hS13 : KOK Tryz.prog T K13.dir := runAC_ok follows T_ok tab13_ok 4
theorem run_cnt (R : Type) (n : Int) (k : List Rs → Option R) : runFC Tryz.prog T K13 (fun _ _ => none) false FU 52 R (mkAs T [23, 68] [.n, .i n]) (fun _ => none) 0 (fun out => ob (resC T true [.d 23] out) k) = cntG 23 n k := by kernel_rfl
noncomputable def tab14 : List (Nat × SymC) := (52, pureS T true [23, 68] (cntF 23)) :: tab13
theorem tab14_ok : TabOK Tryz.prog T tab14 := by
  refine pure_con (sh := true) (rk := [.d 23]) (d := 4) (fu := FU) (Lo := (fun _ _ => none)) follows T_ok tab13_ok (cntF_nat 23) (by kernel_rfl) loopsC_none (fun xs rs htv hrs => ?_)
  match xs, htv, htv.len with
  | [x, n], htv, _ =>
    obtain ⟨e2, cs2, hn⟩ := htv.tail.head
    obtain ⟨n, rfl, _⟩ := tv_int (T := T) (t := 68) (k := .u64) (by kernel_rfl) hn
    cases x with
    | n =>
      have h := (run_cnt (List Rs) n some).trans (cnt_at hrs)
      simp only [ob_id] at h
      exact h
    | _ => cases hrs
noncomputable def K14 : KC := runAC Tryz.prog T tab14 false FU 4
theorem hK14 : K14.nat := runAC_nat tab14_ok 4
theorem hS14 : KOK Tryz.prog T K14.dir := runAC_ok follows T_ok tab14_ok 4
theorem run_pk (R : Type) (xs : List V) (err n : Int) (k : List Rs → Option R) : runFC Tryz.prog T K14 (fun _ _ => none) false FU 48 R (.p 0 107 [] :: mkAs T [68] [.i n]) (box0 107 (.l [.l xs, .i err])) 1 (fun out => ob (resM T 107 (.l [.l xs, .i err]) [.d 68, .d 3, .d 25] out) k) = pkG (.l [.l xs, .i err]) xs n (fun p => k (pkR 107 68 25 3 (.l [.l xs, .i err]) p)) := by kernel_rfl
theorem run_pkN (R : Type)  (err n : Int) (k : List Rs → Option R) : runFC Tryz.prog T K14 (fun _ _ => none) false FU 48 R (.p 0 107 [] :: mkAs T [68] [.i n]) (box0 107 (.l [.n, .i err])) 1 (fun out => ob (resM T 107 (.l [.n, .i err]) [.d 68, .d 3, .d 25] out) k) = k (pkR 107 68 25 3 (.l [.n, .i err]) (0, 0, 61)) := by kernel_rfl
noncomputable def tab15 : List (Nat × SymC) := (48, pureM T 107 [68] (pkF 107 68 25 3)) :: tab14
theorem tab15_ok : TabOK Tryz.prog T tab15 := by
  refine pureM_con (rk := [.d 68, .d 3, .d 25]) (d := 4) (fu := FU) (Lo := (fun _ _ => none)) follows T_ok tab14_ok (pkF_nat 107 68 25 3) (by kernel_rfl) (by kernel_rfl) loopsC_none (fun x xs rs htv hrs => ?_)
  match xs, htv, htv.len with
  | [n], htv, _ =>
    obtain ⟨e, cs, hx⟩ := htv.head
    obtain ⟨e2, cs2, hn⟩ := htv.tail.head
    obtain ⟨n, rfl, _⟩ := tv_int (T := T) (t := 68) (k := .u64) (by kernel_rfl) hn
    obtain ⟨y, err, rfl, _, rfl | ⟨ys, rfl⟩⟩ := tv_two (T := T) (t := 107) (s := 23) (el := 5) (er := 25) (k := .i64) (by kernel_rfl) (by kernel_rfl) (by kernel_rfl) hx
    · have h := (run_pkN (List Rs) err n some).trans (pk_atN hrs)
      simp only [ob_id] at h
      exact h
    · have h := (run_pk (List Rs) ys err n some).trans (pk_at hrs)
      simp only [ob_id] at h
      exact h
noncomputable def K15 : KC := runAC Tryz.prog T tab15 false FU 4
theorem hK15 : K15.nat := runAC_nat tab15_ok 4
theorem hS15 : KOK Tryz.prog T K15.dir := runAC_ok follows T_ok tab15_ok 4
theorem run_ct (R : Type) (xs : List V) (err n : Int) (k : List Rs → Option R) : runFC Tryz.prog T K15 (fun _ _ => none) false FU 20 R (.p 0 107 [] :: mkAs T [68] [.i n]) (box0 107 (.l [.l xs, .i err])) 1 (fun out => ob (resM T 107 (.l [.l xs, .i err]) [.d 68] out) k) = ctG 107 68 xs err n k := by kernel_rfl
theorem run_ctN (R : Type)  (err n : Int) (k : List Rs → Option R) : runFC Tryz.prog T K15 (fun _ _ => none) false FU 20 R (.p 0 107 [] :: mkAs T [68] [.i n]) (box0 107 (.l [.n, .i err])) 1 (fun out => ob (resM T 107 (.l [.n, .i err]) [.d 68] out) k) = ctN 107 68 err k := by kernel_rfl
noncomputable def tab16 : List (Nat × SymC) := (20, pureM T 107 [68] (ctF 107 68)) :: tab15
theorem tab16_ok : TabOK Tryz.prog T tab16 := by
  refine pureM_con (rk := [.d 68]) (d := 4) (fu := FU) (Lo := (fun _ _ => none)) follows T_ok tab15_ok (ctF_nat 107 68) (by kernel_rfl) (by kernel_rfl) loopsC_none (fun x xs rs htv hrs => ?_)
  match xs, htv, htv.len with
  | [n], htv, _ =>
    obtain ⟨e, cs, hx⟩ := htv.head
    obtain ⟨e2, cs2, hn⟩ := htv.tail.head
    obtain ⟨n, rfl, _⟩ := tv_int (T := T) (t := 68) (k := .u64) (by kernel_rfl) hn
    obtain ⟨y, err, rfl, _, rfl | ⟨ys, rfl⟩⟩ := tv_two (T := T) (t := 107) (s := 23) (el := 5) (er := 25) (k := .i64) (by kernel_rfl) (by kernel_rfl) (by kernel_rfl) hx
    · have h := (run_ctN (List Rs) err n some).trans (ct_lawN 107 68 hrs)
      simp only [ob_id] at h
      exact h
    · have h := (run_ct (List Rs) ys err n some).trans (ct_law 107 68 hrs)
      simp only [ob_id] at h
      exact h
noncomputable def K16 : KC := runAC Tryz.prog T tab16 false FU 4
theorem hK16 : K16.nat := runAC_nat tab16_ok 4
theorem hS16 : KOK Tryz.prog T K16.dir := runAC_ok follows T_ok tab16_ok 4
theorem run_tx (R : Type) (xs : List V) (err n : Int) (k : List Rs → Option R) : runFC Tryz.prog T K16 (fun _ _ => none) false FU 22 R (.p 0 107 [] :: mkAs T [3] [.i n]) (box0 107 (.l [.l xs, .i err])) 1 (fun out => ob (resM T 107 (.l [.l xs, .i err]) [.d 23] out) k) = txG 107 23 xs err n k := by kernel_rfl
theorem run_txN (R : Type)  (err n : Int) (k : List Rs → Option R) : runFC Tryz.prog T K16 (fun _ _ => none) false FU 22 R (.p 0 107 [] :: mkAs T [3] [.i n]) (box0 107 (.l [.n, .i err])) 1 (fun out => ob (resM T 107 (.l [.n, .i err]) [.d 23] out) k) = txN 107 23 err k := by kernel_rfl
noncomputable def tab17 : List (Nat × SymC) := (22, pureM T 107 [3] (txF 107 23)) :: tab16
theorem tab17_ok : TabOK Tryz.prog T tab17 := by
  refine pureM_con (rk := [.d 23]) (d := 4) (fu := FU) (Lo := (fun _ _ => none)) follows T_ok tab16_ok (txF_nat 107 23) (by kernel_rfl) (by kernel_rfl) loopsC_none (fun x xs rs htv hrs => ?_)
  match xs, htv, htv.len with
  | [n], htv, _ =>
    obtain ⟨e, cs, hx⟩ := htv.head
    obtain ⟨e2, cs2, hn⟩ := htv.tail.head
    obtain ⟨n, rfl, _⟩ := tv_int (T := T) (t := 3) (k := .i64) (by kernel_rfl) hn
    obtain ⟨y, err, rfl, _, rfl | ⟨ys, rfl⟩⟩ := tv_two (T := T) (t := 107) (s := 23) (el := 5) (er := 25) (k := .i64) (by kernel_rfl) (by kernel_rfl) (by kernel_rfl) hx
    · have h := (run_txN (List Rs) err n some).trans (tx_lawN 107 23 hrs)
      simp only [ob_id] at h
      exact h
    · have h := (run_tx (List Rs) ys err n some).trans (tx_law 107 23 hrs)
      simp only [ob_id] at h
      exact h
noncomputable def K17 : KC := runAC Tryz.prog T tab17 false FU 4
theorem hK17 : K17.nat := runAC_nat tab17_ok 4
theorem hS17 : KOK Tryz.prog T K17.dir := runAC_ok follows T_ok tab17_ok 4
theorem run_fx (R : Type) (x : V) (n : Int) (k : List Rs → Option R) : runFC Tryz.prog T K17 (fun _ _ => none) false FU 23 R (.p 0 107 [] :: mkAs T [3] [.i n]) (box0 107 x) 1 (fun out => ob (resM T 107 x [.d 68] out) k) = fxG 107 68 x n k := by kernel_rfl
noncomputable def tab18 : List (Nat × SymC) := (23, pureM T 107 [3] (fxF 107 68)) :: tab17
theorem tab18_ok : TabOK Tryz.prog T tab18 := by
  refine pureM_con (rk := [.d 68]) (d := 4) (fu := FU) (Lo := (fun _ _ => none)) follows T_ok tab17_ok (fxF_nat 107 68) (by kernel_rfl) (by kernel_rfl) loopsC_none (fun x xs rs htv hrs => ?_)
  match xs, htv, htv.len with
  | [n], htv, _ =>
    obtain ⟨e2, cs2, hn⟩ := htv.tail.head
    obtain ⟨n, rfl, _⟩ := tv_int (T := T) (t := 3) (k := .i64) (by kernel_rfl) hn
    have h := (run_fx (List Rs) x n some).trans (fx_law 107 68 hrs)
    simp only [ob_id] at h
    exact h
noncomputable def K18 : KC := runAC Tryz.prog T tab18 false FU 4
theorem hK18 : K18.nat := runAC_nat tab18_ok 4
theorem hS18 : KOK Tryz.prog T K18.dir := runAC_ok follows T_ok tab18_ok 4
end Go.Proofs.YtkaobamodajniaaGreat

namespace Go.Proofs.YtkaobamodajniaaGreat
open Go.Vm
set_option maxRecDepth 100000
set_option linter.unusedVariables false
set_option linter.constructorNameAsVariable false
theorem run_rr (R : Type) (x : V) (k : List Rs → Option R) : runFC Tryz.prog T K18 (fun _ _ => none) false FU 24 R (.p 0 107 [] :: mkAs T [] []) (box0 107 x) 1 (fun out => ob (resM T 107 x [.d 33] out) k) = rrG 107 33 x k := by kernel_rfl
noncomputable def tab19 : List (Nat × SymC) := (24, pureM T 107 [] (rrF 107 33)) :: tab18
theorem tab19_ok : TabOK Tryz.prog T tab19 := by
  refine pureM_con (rk := [.d 33]) (d := 4) (fu := FU) (Lo := (fun _ _ => none)) follows T_ok tab18_ok (rrF_nat 107 33) (by kernel_rfl) (by kernel_rfl) loopsC_none (fun x xs rs htv hrs => ?_)
  match xs, htv, htv.len with
  | [], htv, _ =>
    have h := (run_rr (List Rs) x some).trans (rr_law 107 33 hrs)
    simp only [ob_id] at h
    exact h
noncomputable def K19 : KC := runAC Tryz.prog T tab19 false FU 4
theorem hK19 : K19.nat := runAC_nat tab19_ok 4
theorem hS19 : KOK Tryz.prog T K19.dir := runAC_ok follows T_ok tab19_ok 4
end Go.Proofs.YtkaobamodajniaaGreat

namespace Go.Proofs.YtkaobamodajniaaGreat
open Go.Vm
set_option maxRecDepth 100000
set_option linter.unusedVariables false
set_option linter.constructorNameAsVariable false
def tmEp : PEp → Vm.St
  | .m0 nm y n => ⟨[(0, .s nm), (4, .o 0 1), (5, .i .i64 0), (6, .p 3 107 []), (7, .o 4 1), (8, .i .u64 n)], (.n (some (.row 35 1 [] true false)) (.n none (.n (some (.box 107 (.v 107 y) false)) .e .e) .e) (.n none (.n (some (.row 35 1 [] true false)) .e .e) .e)), [], 5, some []⟩
  | .m1 nm y xs n => ⟨[(0, .s nm), (4, .o 0 1), (5, .i .i64 0), (6, .p 3 107 []), (7, .o 4 1), (8, .i .u64 n)], (.n (some (.row 35 1 [] true false)) (.n none (.n (some (.box 107 (.v 107 y) false)) .e .e) .e) (.n none (.n (some (.row 35 1 xs false false)) .e .e) .e)), [], 5, some []⟩
def ekEp (R : Type) (kx : Exit → Vm.St → Option R) : QEp → Option R
  | .o0 nm y n => kx (.exit 0) ⟨[(0, .s nm), (4, .o 0 1), (5, .i .i64 0), (6, .p 3 107 []), (7, .o 4 1), (8, .i .u64 n)], (.n (some (.row 35 1 [] true false)) (.n none (.n (some (.box 107 (.v 107 y) false)) .e .e) .e) (.n none (.n (some (.row 35 1 [] true false)) .e .e) .e)), [], 8, some []⟩
  | .o1 nm y xs n => kx (.exit 0) ⟨[(0, .s nm), (4, .o 0 1), (5, .i .i64 0), (6, .p 3 107 []), (7, .o 4 1), (8, .i .u64 n)], (.n (some (.row 35 1 [] true false)) (.n none (.n (some (.box 107 (.v 107 y) false)) .e .e) .e) (.n none (.n (some (.row 35 1 xs false false)) .e .e) .e)), [], 8, some []⟩
  | .r0 nm y n => kx (.ret) ⟨[(0, .s nm), (4, .o 6 1), (5, .i .i64 62), (6, .p 3 107 []), (7, .o 4 1), (8, .i .u64 n)], (.n none (.n none (.n (some (.box 107 (.v 107 y) false)) .e .e) .e) (.n none (.n (some (.row 35 1 [] true false)) .e .e) (.n (some (.row 35 1 [] true false)) .e .e))), [], 8, some []⟩
  | .r1 nm y xs n => kx (.ret) ⟨[(0, .s nm), (4, .o 6 1), (5, .i .i64 62), (6, .p 3 107 []), (7, .o 4 1), (8, .i .u64 n)], (.n none (.n none (.n (some (.box 107 (.v 107 y) false)) .e .e) .e) (.n none (.n (some (.row 35 1 xs false false)) .e .e) (.n (some (.row 35 1 [] true false)) .e .e))), [], 8, some []⟩
def extEp : Vm.St → Option PEp
  | ⟨[(0, .s nm), (4, .o 0 1), (5, .i .i64 0), (6, .p 3 107 []), (7, .o 4 1), (8, .i .u64 n)], (.n (some (.row 35 1 [] true false)) (.n none (.n (some (.box 107 (.v 107 y) false)) .e .e) .e) (.n none (.n (some (.row 35 1 [] true false)) .e .e) .e)), [], 5, some []⟩ => some (.m0 nm y n)
  | ⟨[(0, .s nm), (4, .o 0 1), (5, .i .i64 0), (6, .p 3 107 []), (7, .o 4 1), (8, .i .u64 n)], (.n (some (.row 35 1 [] true false)) (.n none (.n (some (.box 107 (.v 107 y) false)) .e .e) .e) (.n none (.n (some (.row 35 1 xs false false)) .e .e) .e)), [], 5, some []⟩ => some (.m1 nm y xs n)
  | _ => none
theorem extEp_ok (τ : Vm.St) (x : PEp) (h : extEp τ = some x) : τ = tmEp x := by
  unfold extEp at h
  split at h <;> first | (cases h; rfl) | cases h
theorem stepEp (R : Type) (of : Nat → Option Ob) (x : PEp) (K : Vm.St → Option R) (kx : Exit → Vm.St → Option R) : execC T K19 (fun _ => none) false FU (ntOf Tryz.prog 6) of R (lp (codeOf Tryz.prog 6) 0) (tmEp x) (sortN 0 [0, 4, 5, 6, 7, 8] 8 K kx) = BEp R x (fun x' => K (tmEp x')) (ekEp R kx) := by
  cases x
  · kernel_rfl
  · kernel_rfl
noncomputable def HEp : LS := loopH T K19 (fun _ => none) (ntOf Tryz.prog 6) (lp (codeOf Tryz.prog 6) 0) 0 [0, 4, 5, 6, 7, 8] 8 extEp BEp ekEp
theorem HEp_ok : LoopTk Tryz.prog T (ntOf Tryz.prog 6) 0 (lp (codeOf Tryz.prog 6) 0) HEp :=
  loopH_ok follows T_ok hK19 hS19 loNat_none (loopsOK_none _) tmEp extEp_ok stepEp
noncomputable def LoEp : Nat → LC := atN 0 [(4, HEp)]
theorem LoEp_ok : LoopsC Tryz.prog T 6 LoEp := loopsC_at 0 (List.forall_mem_cons.2 ⟨HEp_ok.1, fun _ h => by cases h⟩) 1 (by kernel_rfl) ⟨trivial, loI (s0 := HEp) (by kernel_rfl) HEp_ok⟩
theorem run_ep (R : Type) (nm bs : List V) (k : List Rs → Option R) : runFC Tryz.prog T K19 LoEp false FU 6 R (mkAs T [9, 23] [.s nm, .l bs]) (fun _ => none) 0 (fun out => ob (resC T true [.d 22, .d 25] out) k) = epG bs 22 25 nm k := by kernel_rfl
theorem run_epN (R : Type) (nm : List V) (k : List Rs → Option R) : runFC Tryz.prog T K19 LoEp false FU 6 R (mkAs T [9, 23] [.s nm, .n]) (fun _ => none) 0 (fun out => ob (resC T true [.d 22, .d 25] out) k) = epN 22 25 nm k := by kernel_rfl
noncomputable def tab20 : List (Nat × SymC) := (6, pureS T true [9, 23] (epF2 22 25)) :: tab19
theorem tab20_ok : TabOK Tryz.prog T tab20 := by
  refine pure_con (sh := true) (rk := [.d 22, .d 25]) (d := 4) (fu := FU) (Lo := LoEp) follows T_ok tab19_ok (epF2_nat 22 25) (by kernel_rfl) LoEp_ok (fun xs rs htv hrs => ?_)
  match xs, htv, htv.len with
  | [x, y], htv, _ =>
    obtain ⟨e1, cs1, hx⟩ := htv.head
    obtain ⟨nm, rfl⟩ := tv_str (T := T) (t := 9) (by kernel_rfl) hx
    obtain ⟨e2, cs2, hy⟩ := htv.tail.head
    rcases tv_bytes (T := T) (t := 23) (el := 5) (by kernel_rfl) (by kernel_rfl) hy with rfl | ⟨ns, rfl, hb⟩
    · have h := (run_epN (List Rs) nm some).trans (ep_lawN (epF2_at hrs))
      simp only [ob_id] at h
      exact h
    · have h := (run_ep (List Rs) nm (ns.map nv) some).trans (ep_law (epF2_at hrs))
      simp only [ob_id] at h
      exact h
noncomputable def K20 : KC := runAC Tryz.prog T tab20 false FU 4
theorem hK20 : K20.nat := runAC_nat tab20_ok 4
theorem hS20 : KOK Tryz.prog T K20.dir := runAC_ok follows T_ok tab20_ok 4
end Go.Proofs.YtkaobamodajniaaGreat

namespace Go.Proofs.YtkaobamodajniaaGreat
open Go.Vm
set_option maxRecDepth 100000
set_option linter.unusedVariables false
set_option linter.constructorNameAsVariable false
def tmEn : PEn → Vm.St
  | .m xs bs n i => ⟨[(3, .o 0 1), (10, .v 22 (.l xs)), (11, .i .i64 n), (12, .i .i64 i)], (.n (some (.row 5 1 bs false false)) .e .e), [], 1, some []⟩
def ekEn (R : Type) (kx : Exit → Vm.St → Option R) : QEn → Option R
  | .o xs bs n i => kx (.exit 0) ⟨[(3, .o 0 1), (10, .v 22 (.l xs)), (11, .i .i64 n), (12, .i .i64 i)], (.n (some (.row 5 1 bs false false)) .e .e), [], 16, some []⟩
def extEn : Vm.St → Option PEn
  | ⟨[(3, .o 0 1), (10, .v 22 (.l xs)), (11, .i .i64 n), (12, .i .i64 i)], (.n (some (.row 5 1 bs false false)) .e .e), [], 1, some []⟩ => some (.m xs bs n i)
  | _ => none
theorem extEn_ok (τ : Vm.St) (x : PEn) (h : extEn τ = some x) : τ = tmEn x := by
  unfold extEn at h
  split at h <;> first | (cases h; rfl) | cases h
theorem stepEn (R : Type) (of : Nat → Option Ob) (x : PEn) (K : Vm.St → Option R) (kx : Exit → Vm.St → Option R) : execC T K20 (fun _ => none) false FU (ntOf Tryz.prog 8) of R (lp (codeOf Tryz.prog 8) 0) (tmEn x) (sortN 0 [999999, 3, 10, 11, 12] 16 K kx) = BEn R x (fun x' => K (tmEn x')) (ekEn R kx) := by
  cases x
  · kernel_rfl
noncomputable def HEn : LS := loopH T K20 (fun _ => none) (ntOf Tryz.prog 8) (lp (codeOf Tryz.prog 8) 0) 0 [999999, 3, 10, 11, 12] 16 extEn BEn ekEn
theorem HEn_ok : LoopTk Tryz.prog T (ntOf Tryz.prog 8) 0 (lp (codeOf Tryz.prog 8) 0) HEn :=
  loopH_ok follows T_ok hK20 hS20 loNat_none (loopsOK_none _) tmEn extEn_ok stepEn
noncomputable def LoEn : Nat → LC := atN 0 [(3, HEn)]
theorem LoEn_ok : LoopsC Tryz.prog T 8 LoEn := loopsC_at 0 (List.forall_mem_cons.2 ⟨HEn_ok.1, fun _ h => by cases h⟩) 1 (by kernel_rfl) ⟨trivial, loI (s0 := HEn) (by kernel_rfl) HEn_ok⟩
theorem run_En (xs : List V) : runFC Tryz.prog T K20 LoEn false FU 8 (List Rs) (mkAs T [22] [.l xs]) (fun _ => none) 0 (fun out => resC T true [.r 5] out) = enG BEn 5 xs := by kernel_rfl
theorem run_EnN  : runFC Tryz.prog T K20 LoEn false FU 8 (List Rs) (mkAs T [22] [.n]) (fun _ => none) 0 (fun out => resC T true [.r 5] out) = some (ensr 5 [.n]) := by kernel_rfl
noncomputable def tab21 : List (Nat × SymC) := (8, pureS T true [22] (gF ensg (ensr 5))) :: tab20
theorem tab21_ok : TabOK Tryz.prog T tab21 := by
  refine pure_conG (sh := true) (rk := [.r 5]) (d := 4) (fu := FU) (Lo := LoEn) (ds := [.slice DEnt]) follows T_ok tab20_ok (by kernel_rfl) LoEn_ok 40 (by kernel_rfl) (fun xs hd hg => ?_)
  obtain ⟨a, rfl, ha⟩ := hasL1 hd
  rcases ha with rfl | ⟨ys, rfl, hy⟩
  · exact run_EnN
  · exact (run_En ys).trans (enG_law hy hg).1
noncomputable def K21 : KC := runAC Tryz.prog T tab21 false FU 4
theorem hK21 : K21.nat := runAC_nat tab21_ok 4
theorem hS21 : KOK Tryz.prog T K21.dir := runAC_ok follows T_ok tab21_ok 4
def tmEd : PEd → Vm.St
  | .m xs bs n i => ⟨[(3, .o 0 1), (10, .v 22 (.l xs)), (11, .i .i64 n), (12, .i .i64 i)], (.n (some (.row 5 1 bs false false)) .e .e), [], 1, some []⟩
def ekEd (R : Type) (kx : Exit → Vm.St → Option R) : QEd → Option R
  | .o xs bs n i => kx (.exit 0) ⟨[(3, .o 0 1), (10, .v 22 (.l xs)), (11, .i .i64 n), (12, .i .i64 i)], (.n (some (.row 5 1 bs false false)) .e .e), [], 16, some []⟩
def extEd : Vm.St → Option PEd
  | ⟨[(3, .o 0 1), (10, .v 22 (.l xs)), (11, .i .i64 n), (12, .i .i64 i)], (.n (some (.row 5 1 bs false false)) .e .e), [], 1, some []⟩ => some (.m xs bs n i)
  | _ => none
theorem extEd_ok (τ : Vm.St) (x : PEd) (h : extEd τ = some x) : τ = tmEd x := by
  unfold extEd at h
  split at h <;> first | (cases h; rfl) | cases h
theorem stepEd (R : Type) (of : Nat → Option Ob) (x : PEd) (K : Vm.St → Option R) (kx : Exit → Vm.St → Option R) : execC T K21 (fun _ => none) false FU (ntOf Tryz.prog 7) of R (lp (codeOf Tryz.prog 7) 0) (tmEd x) (sortN 0 [999999, 3, 10, 11, 12] 16 K kx) = BEd R x (fun x' => K (tmEd x')) (ekEd R kx) := by
  cases x
  · kernel_rfl
noncomputable def HEd : LS := loopH T K21 (fun _ => none) (ntOf Tryz.prog 7) (lp (codeOf Tryz.prog 7) 0) 0 [999999, 3, 10, 11, 12] 16 extEd BEd ekEd
theorem HEd_ok : LoopTk Tryz.prog T (ntOf Tryz.prog 7) 0 (lp (codeOf Tryz.prog 7) 0) HEd :=
  loopH_ok follows T_ok hK21 hS21 loNat_none (loopsOK_none _) tmEd extEd_ok stepEd
noncomputable def LoEd : Nat → LC := atN 0 [(3, HEd)]
theorem LoEd_ok : LoopsC Tryz.prog T 7 LoEd := loopsC_at 0 (List.forall_mem_cons.2 ⟨HEd_ok.1, fun _ h => by cases h⟩) 1 (by kernel_rfl) ⟨trivial, loI (s0 := HEd) (by kernel_rfl) HEd_ok⟩
theorem run_Ed (xs : List V) : runFC Tryz.prog T K21 LoEd false FU 7 (List Rs) (mkAs T [22] [.l xs]) (fun _ => none) 0 (fun out => resC T true [.r 5] out) = enG BEd 5 xs := by kernel_rfl
theorem run_EdN  : runFC Tryz.prog T K21 LoEd false FU 7 (List Rs) (mkAs T [22] [.n]) (fun _ => none) 0 (fun out => resC T true [.r 5] out) = some (ensr 5 [.n]) := by kernel_rfl
noncomputable def tab22 : List (Nat × SymC) := (7, pureS T true [22] (gF ensg (ensr 5))) :: tab21
theorem tab22_ok : TabOK Tryz.prog T tab22 := by
  refine pure_conG (sh := true) (rk := [.r 5]) (d := 4) (fu := FU) (Lo := LoEd) (ds := [.slice DEnt]) follows T_ok tab21_ok (by kernel_rfl) LoEd_ok 40 (by kernel_rfl) (fun xs hd hg => ?_)
  obtain ⟨a, rfl, ha⟩ := hasL1 hd
  rcases ha with rfl | ⟨ys, rfl, hy⟩
  · exact run_EdN
  · exact (run_Ed ys).trans (enG_law hy hg).2
noncomputable def K22 : KC := runAC Tryz.prog T tab22 false FU 4
theorem hK22 : K22.nat := runAC_nat tab22_ok 4
theorem hS22 : KOK Tryz.prog T K22.dir := runAC_ok follows T_ok tab22_ok 4
end Go.Proofs.YtkaobamodajniaaGreat

namespace Go.Proofs.YtkaobamodajniaaGreat
open Go.Vm
set_option maxRecDepth 100000
set_option linter.unusedVariables false
noncomputable def tabA0 : List (Nat × Sym) := [(115, (pureS T false [191, 23] (seeF (Fmx 191))).dir), (169, carry64), (170, borrow64)]
theorem tabA0_ok : AllS Tryz.prog T tabA0 := ⟨TabOK.see (TabOK.at tab3_ok (by kernel_rfl)), carry64_ok Tryz.func169 (by kernel_rfl) (by kernel_rfl) (by kernel_rfl) (by kernel_rfl), borrow64_ok Tryz.func170 (by kernel_rfl) (by kernel_rfl) (by kernel_rfl) (by kernel_rfl), trivial⟩
theorem alive_run : ob (runZ Tryz.prog T tabA0 100000 60 5 (mkAs T [] []) (fun _ => none) 0) (fun out => resC T true [.d 4] out) = some [.d 4 (.b true)] := by kernel_rfl
noncomputable def aliveC : SymC := pureS T true [] (gF (fun _ => true) (fun _ => [.d 4 (.b true)]))
theorem aliveC_nat : aliveC.nat := pureS_nat (gF_nat _ _)
theorem alive : SymOK Tryz.prog T 5 aliveC.dir :=
  pure_ok (s := ofSym (runZ Tryz.prog T tabA0 100000 60 5)) (ofSym_nat _) (by rw [ofSym_dir]; exact runZ_ok follows T_ok tabA0_ok) (rk := [.d 4]) (gF_nat _ _) rfl (fun xs rs htv hrs => by
    have hl := htv.len
    cases xs with
    | cons _ _ => cases hl
    | nil =>
      obtain ⟨_, rfl⟩ := gF_at hrs
      exact alive_run)
end Go.Proofs.YtkaobamodajniaaGreat

namespace Go.Proofs.YtkaobamodajniaaGreat
open Go.Vm
set_option maxRecDepth 100000
set_option linter.unusedVariables false
set_option linter.constructorNameAsVariable false
theorem run_cq (bs : List V) : runFC Tryz.prog T K22 (fun _ _ => none) false FU 54 (List Rs) (mkAs T [23] [.l bs]) (fun _ => none) 0 (fun out => resC T true [.d 84, .d 25] out) = (lim (0 + bs.length) <| cqG (.l [.l bs, .i 0]) fun c e => some [.d 84 c, .d 25 (.i e)]) := by kernel_rfl
theorem run_cqN  : runFC Tryz.prog T K22 (fun _ _ => none) false FU 54 (List Rs) (mkAs T [23] [.n]) (fun _ => none) 0 (fun out => resC T true [.d 84, .d 25] out) = (cqG (.l [.n, .i 0]) fun c e => some [.d 84 c, .d 25 (.i e)]) := by kernel_rfl
noncomputable def tab23 : List (Nat × SymC) := (54, pureS T true [23] (cqF 84 25)) :: tab22
theorem tab23_ok : TabOK Tryz.prog T tab23 := by
  refine pure_con (sh := true) (rk := [.d 84, .d 25]) (d := 4) (fu := FU) (Lo := (fun _ _ => none)) follows T_ok tab22_ok (cqF_nat 84 25) (by kernel_rfl) loopsC_none (fun xs rs htv hrs => ?_)
  have hd := htv.has 40 (ds := [.slice (.int .u8)]) (by kernel_rfl)
  obtain ⟨a, rfl, ha⟩ := hasL1 hd
  cases ho : Nat.ble a.els.length LIM with
  | false => unfold cqF at hrs; simp only at hrs; rw [ho] at hrs; cases hrs
  | true =>
  have hrs : cqK (.l [a, .i 0]) (fun c e => some [Rs.d 84 c, .d 25 (.i e)]) = some rs := by unfold cqF at hrs; simp only at hrs; rw [ho] at hrs; exact hrs
  rcases bytes_v ha with rfl | ⟨ys, rfl⟩
  · exact run_cqN.trans ((cqG_law (show rdO (.l [.n, .i 0]) = true from ho)).trans hrs)
  · have hl : ys.length ≤ 1073741824 := Nat.le_of_ble_eq_true ho
    refine (run_cq ys).trans ?_
    rw [lim_in (by omega)]
    exact (cqG_law (show rdO (.l [.l ys, .i 0]) = true from ho)).trans hrs
noncomputable def K23 : KC := runAC Tryz.prog T tab23 false FU 4
theorem hK23 : K23.nat := runAC_nat tab23_ok 4
theorem hS23 : KOK Tryz.prog T K23.dir := runAC_ok follows T_ok tab23_ok 4
theorem run_wb_true (v h : Int) (k : List V) : runFC Tryz.prog T K23 (fun _ _ => none) false FU 37 (List Rs) (mkAs T [84] [.l [.l [.i v, .l k], .i h, .b true]]) (fun _ => none) 0 (fun out => resC T true [.r 5] out) = cbG 5 true v h k := by kernel_rfl
theorem run_wbN_true (v h : Int) : runFC Tryz.prog T K23 (fun _ _ => none) false FU 37 (List Rs) (mkAs T [84] [.l [.l [.i v, .n], .i h, .b true]]) (fun _ => none) 0 (fun out => resC T true [.r 5] out) = cbG 5 true v h [] := by kernel_rfl
theorem run_wb_false (v h : Int) (k : List V) : runFC Tryz.prog T K23 (fun _ _ => none) false FU 37 (List Rs) (mkAs T [84] [.l [.l [.i v, .l k], .i h, .b false]]) (fun _ => none) 0 (fun out => resC T true [.r 5] out) = cbG 5 false v h k := by kernel_rfl
theorem run_wbN_false (v h : Int) : runFC Tryz.prog T K23 (fun _ _ => none) false FU 37 (List Rs) (mkAs T [84] [.l [.l [.i v, .n], .i h, .b false]]) (fun _ => none) 0 (fun out => resC T true [.r 5] out) = cbG 5 false v h [] := by kernel_rfl
noncomputable def tab24 : List (Nat × SymC) := (37, pureS T true [84] (gF coing (coinr 5))) :: tab23
theorem tab24_ok : TabOK Tryz.prog T tab24 := by
  refine pure_conG (sh := true) (rk := [.r 5]) (d := 4) (fu := FU) (Lo := (fun _ _ => none)) (ds := [DCoin]) follows T_ok tab23_ok (by kernel_rfl) loopsC_none 40 (by kernel_rfl) (fun xs hd hg => ?_)
  obtain ⟨a, rfl, ha⟩ := hasL1 hd
  obtain ⟨v, k, h, q, rfl, hk⟩ := coin_v ha
  obtain ⟨h1, h2, h3⟩ := coin_at hg
  rcases bytes_v hk with rfl | ⟨ys, rfl⟩ <;> cases q
  · exact (run_wbN_false v h).trans (cb_law h1 h2 h3).1
  · exact (run_wbN_true v h).trans (cb_law h1 h2 h3).1
  · exact (run_wb_false v h ys).trans (cb_law h1 h2 h3).1
  · exact (run_wb_true v h ys).trans (cb_law h1 h2 h3).1
noncomputable def K24 : KC := runAC Tryz.prog T tab24 false FU 4
theorem hK24 : K24.nat := runAC_nat tab24_ok 4
theorem hS24 : KOK Tryz.prog T K24.dir := runAC_ok follows T_ok tab24_ok 4
theorem run_db_true (v h : Int) (k : List V) : runFC Tryz.prog T K24 (fun _ _ => none) false FU 35 (List Rs) (mkAs T [84] [.l [.l [.i v, .l k], .i h, .b true]]) (fun _ => none) 0 (fun out => resC T true [.r 5] out) = cbD 5 true v h k := by kernel_rfl
theorem run_dbN_true (v h : Int) : runFC Tryz.prog T K24 (fun _ _ => none) false FU 35 (List Rs) (mkAs T [84] [.l [.l [.i v, .n], .i h, .b true]]) (fun _ => none) 0 (fun out => resC T true [.r 5] out) = cbD 5 true v h [] := by kernel_rfl
theorem run_db_false (v h : Int) (k : List V) : runFC Tryz.prog T K24 (fun _ _ => none) false FU 35 (List Rs) (mkAs T [84] [.l [.l [.i v, .l k], .i h, .b false]]) (fun _ => none) 0 (fun out => resC T true [.r 5] out) = cbD 5 false v h k := by kernel_rfl
theorem run_dbN_false (v h : Int) : runFC Tryz.prog T K24 (fun _ _ => none) false FU 35 (List Rs) (mkAs T [84] [.l [.l [.i v, .n], .i h, .b false]]) (fun _ => none) 0 (fun out => resC T true [.r 5] out) = cbD 5 false v h [] := by kernel_rfl
noncomputable def tab25 : List (Nat × SymC) := (35, pureS T true [84] (gF coing (coinr 5))) :: tab24
theorem tab25_ok : TabOK Tryz.prog T tab25 := by
  refine pure_conG (sh := true) (rk := [.r 5]) (d := 4) (fu := FU) (Lo := (fun _ _ => none)) (ds := [DCoin]) follows T_ok tab24_ok (by kernel_rfl) loopsC_none 40 (by kernel_rfl) (fun xs hd hg => ?_)
  obtain ⟨a, rfl, ha⟩ := hasL1 hd
  obtain ⟨v, k, h, q, rfl, hk⟩ := coin_v ha
  obtain ⟨h1, h2, h3⟩ := coin_at hg
  rcases bytes_v hk with rfl | ⟨ys, rfl⟩ <;> cases q
  · exact (run_dbN_false v h).trans (cb_law h1 h2 h3).2
  · exact (run_dbN_true v h).trans (cb_law h1 h2 h3).2
  · exact (run_db_false v h ys).trans (cb_law h1 h2 h3).2
  · exact (run_db_true v h ys).trans (cb_law h1 h2 h3).2
noncomputable def K25 : KC := runAC Tryz.prog T tab25 false FU 4
theorem hK25 : K25.nat := runAC_nat tab25_ok 4
theorem hS25 : KOK Tryz.prog T K25.dir := runAC_ok follows T_ok tab25_ok 4
theorem run_spn (y : V) : runFC Tryz.prog T K25 (fun _ _ => none) false FU 34 (List Rs) (.p 0 107 [] :: mkAs T [] []) (box0 107 y) 1 (fun out => resM T 107 y [.d 86, .d 4] out) = (spG y fun v q => some [.d 107 (spY y), .d 86 v, .d 4 (.b q)]) := by kernel_rfl
noncomputable def tab26 : List (Nat × SymC) := (34, pureM T 107 [] (spF 107 86 4)) :: tab25
theorem tab26_ok : TabOK Tryz.prog T tab26 := by
  refine pureM_con (rk := [.d 86, .d 4]) (d := 4) (fu := FU) (Lo := (fun _ _ => none)) follows T_ok tab25_ok (spF_nat 107 86 4) (by kernel_rfl) (by kernel_rfl) loopsC_none (fun x xs rs htv hrs => ?_)
  have hd := htv.has 40 (ds := [.struct [.slice (.int .u8), .int .i64]]) (by kernel_rfl)
  obtain ⟨a, hxs, ha⟩ := hasL1 hd
  obtain ⟨rfl, rfl⟩ : x = a ∧ xs = [] := by simpa using hxs
  cases ho : rdO x with
  | false => unfold spF at hrs; simp only at hrs; rw [ho] at hrs; cases hrs
  | true =>
  have hrs : spK x (fun v q => some [Rs.d 107 (spY x), .d 86 v, .d 4 (.b q)]) = some rs := by unfold spF at hrs; simp only at hrs; rw [ho] at hrs; exact hrs
  exact (run_spn x).trans ((spG_law ho).trans hrs)
noncomputable def K26 : KC := runAC Tryz.prog T tab26 false FU 4
theorem hK26 : K26.nat := runAC_nat tab26_ok 4
theorem hS26 : KOK Tryz.prog T K26.dir := runAC_ok follows T_ok tab26_ok 4
def tmUi : PUi → Vm.St
  | .m y xs ls nl nll n i n2 i2 => ⟨[(2, .o 0 1), (3, .i .i64 0), (4, .p 1 107 []), (5, .o 2 1), (6, .o 3 1), (12, .i .u64 n), (13, .i .u64 i), (16, .i .u64 n2), (17, .i .u64 i2)], (.n (some (.row 43 1 [] true false)) (.n (some (.box 107 (.v 107 y) false)) (.n (some (.row 86 1 ls nll false)) .e .e) .e) (.n (some (.row 43 1 xs nl false)) .e .e)), [], 4, some []⟩
def ekUi (R : Type) (kx : Exit → Vm.St → Option R) : QUi → Option R
  | .o y xs ls nl nll n i n2 i2 => kx (.exit 2) ⟨[(2, .o 0 1), (3, .i .i64 0), (4, .p 1 107 []), (5, .o 2 1), (6, .o 3 1), (12, .i .u64 n), (13, .i .u64 i), (16, .i .u64 n2), (17, .i .u64 i2)], (.n (some (.row 43 1 [] true false)) (.n (some (.box 107 (.v 107 y) false)) (.n (some (.row 86 1 ls nll false)) .e .e) .e) (.n (some (.row 43 1 xs nl false)) .e .e)), [], 64, some []⟩
  | .r y xs ls nl nll n i n2 i2 => kx (.ret) ⟨[(2, .o 0 1), (3, .i .i64 62), (4, .p 1 107 []), (5, .o 2 1), (6, .o 3 1), (12, .i .u64 n), (13, .i .u64 i), (16, .i .u64 n2), (17, .i .u64 i2)], (.n (some (.row 43 1 [] true false)) (.n (some (.box 107 (.v 107 y) false)) (.n (some (.row 86 1 ls nll false)) .e .e) .e) (.n (some (.row 43 1 xs nl false)) .e .e)), [], 64, some []⟩
def extUi : Vm.St → Option PUi
  | ⟨[(2, .o 0 1), (3, .i .i64 0), (4, .p 1 107 []), (5, .o 2 1), (6, .o 3 1), (12, .i .u64 n), (13, .i .u64 i), (16, .i .u64 n2), (17, .i .u64 i2)], (.n (some (.row 43 1 [] true false)) (.n (some (.box 107 (.v 107 y) false)) (.n (some (.row 86 1 ls nll false)) .e .e) .e) (.n (some (.row 43 1 xs nl false)) .e .e)), [], 4, some []⟩ => some (.m y xs ls nl nll n i n2 i2)
  | _ => none
theorem extUi_ok (τ : Vm.St) (x : PUi) (h : extUi τ = some x) : τ = tmUi x := by
  unfold extUi at h
  split at h <;> first | (cases h; rfl) | cases h
theorem stepUi (R : Type) (of : Nat → Option Ob) (x : PUi) (K : Vm.St → Option R) (kx : Exit → Vm.St → Option R) : execC T K26 (fun _ => none) false FU (ntOf Tryz.prog 9) of R (lp (codeOf Tryz.prog 9) 1) (tmUi x) (sortN 0 [999999, 2, 3, 4, 5, 6, 12, 13, 16, 17] 64 K kx) = BUi R x (fun x' => K (tmUi x')) (ekUi R kx) := by
  cases x
  · kernel_rfl
noncomputable def HUi : LS := loopH T K26 (fun _ => none) (ntOf Tryz.prog 9) (lp (codeOf Tryz.prog 9) 1) 0 [999999, 2, 3, 4, 5, 6, 12, 13, 16, 17] 64 extUi BUi ekUi
theorem HUi_ok : LoopTk Tryz.prog T (ntOf Tryz.prog 9) 0 (lp (codeOf Tryz.prog 9) 1) HUi :=
  loopH_ok follows T_ok hK26 hS26 loNat_none (loopsOK_none _) tmUi extUi_ok stepUi
def tmUo : PUo → Vm.St
  | .m y xs nl n i => ⟨[(2, .o 0 1), (3, .i .i64 0), (4, .p 1 107 []), (5, .o 2 1), (12, .i .u64 n), (13, .i .u64 i)], (.n (some (.row 43 1 [] true false)) (.n (some (.box 107 (.v 107 y) false)) .e .e) (.n (some (.row 43 1 xs nl false)) .e .e)), [], 3, some []⟩
def ekUo (R : Type) (kx : Exit → Vm.St → Option R) : QUo → Option R
  | .o y xs nl n i => kx (.exit 0) ⟨[(2, .o 0 1), (3, .i .i64 0), (4, .p 1 107 []), (5, .o 2 1), (12, .i .u64 n), (13, .i .u64 i)], (.n (some (.row 43 1 [] true false)) (.n (some (.box 107 (.v 107 y) false)) .e .e) (.n (some (.row 43 1 xs nl false)) .e .e)), [], 128, some []⟩
  | .r y xs nl n i => kx (.ret) ⟨[(2, .o 0 1), (3, .i .i64 62), (4, .p 1 107 []), (5, .o 2 1), (12, .i .u64 n), (13, .i .u64 i)], (.n (some (.row 43 1 [] true false)) (.n (some (.box 107 (.v 107 y) false)) .e .e) (.n (some (.row 43 1 xs nl false)) .e .e)), [], 128, some []⟩
def extUo : Vm.St → Option PUo
  | ⟨[(2, .o 0 1), (3, .i .i64 0), (4, .p 1 107 []), (5, .o 2 1), (12, .i .u64 n), (13, .i .u64 i)], (.n (some (.row 43 1 [] true false)) (.n (some (.box 107 (.v 107 y) false)) .e .e) (.n (some (.row 43 1 xs nl false)) .e .e)), [], 3, some []⟩ => some (.m y xs nl n i)
  | _ => none
theorem extUo_ok (τ : Vm.St) (x : PUo) (h : extUo τ = some x) : τ = tmUo x := by
  unfold extUo at h
  split at h <;> first | (cases h; rfl) | cases h
theorem stepUo (R : Type) (of : Nat → Option Ob) (x : PUo) (K : Vm.St → Option R) (kx : Exit → Vm.St → Option R) : execC T K26 (loT [(7, HUi)]) false FU (ntOf Tryz.prog 9) of R (lp (codeOf Tryz.prog 9) 0) (tmUo x) (sortN 0 [999999, 2, 3, 4, 5, 12, 13] 128 K kx) = BUo R x (fun x' => K (tmUo x')) (ekUo R kx) := by
  cases x
  · kernel_rfl
noncomputable def HUo : LS := loopH T K26 (loT [(7, HUi)]) (ntOf Tryz.prog 9) (lp (codeOf Tryz.prog 9) 0) 0 [999999, 2, 3, 4, 5, 12, 13] 128 extUo BUo ekUo
theorem HUo_ok : LoopTk Tryz.prog T (ntOf Tryz.prog 9) 0 (lp (codeOf Tryz.prog 9) 0) HUo :=
  loopH_ok follows T_ok hK26 hS26 (loT_nat (List.forall_mem_cons.2 ⟨HUi_ok.1, fun _ h => by cases h⟩)) (loopsOK_at 1 (by kernel_rfl) ⟨trivial, loI (s0 := HUi) (by kernel_rfl) ((show lp (lp (codeOf Tryz.prog 9) 0) 0 = lp (codeOf Tryz.prog 9) 1 from by kernel_rfl) ▸ HUi_ok)⟩) tmUo extUo_ok stepUo
noncomputable def LoUp : Nat → LC := atN 0 [(4, HUo)]
theorem LoUp_ok : LoopsC Tryz.prog T 9 LoUp := loopsC_at 0 (List.forall_mem_cons.2 ⟨HUo_ok.1, fun _ h => by cases h⟩) 2 (by kernel_rfl) ⟨⟨trivial, loI (s0 := HUo) (by kernel_rfl) HUo_ok⟩, loN (by kernel_rfl)⟩
theorem run_up (bs : List V) : runFC Tryz.prog T K26 LoUp false FU 9 (List Rs) (mkAs T [23] [.l bs]) (fun _ => none) 0 (fun out => resC T true [.d 39, .d 25] out) = (lim (0 + bs.length) <| upB 39 25 (.l [.l bs, .i 0]) some) := by kernel_rfl
theorem run_upN  : runFC Tryz.prog T K26 LoUp false FU 9 (List Rs) (mkAs T [23] [.n]) (fun _ => none) 0 (fun out => resC T true [.d 39, .d 25] out) = upB 39 25 (.l [.n, .i 0]) some := by kernel_rfl
noncomputable def tab27 : List (Nat × SymC) := (9, pureS T true [23] (upF 39 25)) :: tab26
theorem tab27_ok : TabOK Tryz.prog T tab27 := by
  refine pure_con (sh := true) (rk := [.d 39, .d 25]) (d := 4) (fu := FU) (Lo := LoUp) follows T_ok tab26_ok (upF_nat 39 25) (by kernel_rfl) LoUp_ok (fun xs rs htv hrs => ?_)
  have hd := htv.has 40 (ds := [.slice (.int .u8)]) (by kernel_rfl)
  obtain ⟨a, rfl, ha⟩ := hasL1 hd
  rcases bytes_v ha with rfl | ⟨ys, rfl⟩
  · exact run_upN.trans (upB_law hrs)
  · have hl : ys.length ≤ 1073741824 := by
      cases ho : Nat.ble (V.l ys).els.length LIM with
      | false => unfold upF at hrs; simp only at hrs; rw [ho] at hrs; cases hrs
      | true => exact Nat.le_of_ble_eq_true ho
    refine (run_up ys).trans ?_
    rw [lim_in (by omega)]
    exact upB_law hrs
noncomputable def K27 : KC := runAC Tryz.prog T tab27 false FU 4
theorem hK27 : K27.nat := runAC_nat tab27_ok 4
theorem hS27 : KOK Tryz.prog T K27.dir := runAC_ok follows T_ok tab27_ok 4
end Go.Proofs.YtkaobamodajniaaGreat

namespace Go.Proofs.YtkaobamodajniaaGreat
open Go.Vm
set_option maxRecDepth 100000
set_option linter.unusedVariables false
set_option linter.constructorNameAsVariable false
def tmWi : PWi → Vm.St
  | .m bs xs n i l n2 i2 => ⟨[(3, .o 0 1), (12, .v 39 (.l xs)), (13, .i .i64 n), (14, .i .i64 i), (23, .v 43 l), (24, .i .i64 n2), (25, .i .i64 i2)], (.n (some (.row 5 1 bs false false)) .e .e), [], 1, some []⟩
def ekWi (R : Type) (kx : Exit → Vm.St → Option R) : QWi → Option R
  | .o bs xs n i l n2 i2 => kx (.exit 2) ⟨[(3, .o 0 1), (12, .v 39 (.l xs)), (13, .i .i64 n), (14, .i .i64 i), (23, .v 43 l), (24, .i .i64 n2), (25, .i .i64 i2)], (.n (some (.row 5 1 bs false false)) .e .e), [], 128, some []⟩
def extWi : Vm.St → Option PWi
  | ⟨[(3, .o 0 1), (12, .v 39 (.l xs)), (13, .i .i64 n), (14, .i .i64 i), (23, .v 43 l), (24, .i .i64 n2), (25, .i .i64 i2)], (.n (some (.row 5 1 bs false false)) .e .e), [], 1, some []⟩ => some (.m bs xs n i l n2 i2)
  | _ => none
theorem extWi_ok (τ : Vm.St) (x : PWi) (h : extWi τ = some x) : τ = tmWi x := by
  unfold extWi at h
  split at h <;> first | (cases h; rfl) | cases h
theorem stepWi (R : Type) (of : Nat → Option Ob) (x : PWi) (K : Vm.St → Option R) (kx : Exit → Vm.St → Option R) : execC T K27 (fun _ => none) false FU (ntOf Tryz.prog 12) of R (lp (codeOf Tryz.prog 12) 1) (tmWi x) (sortN 0 [999999, 3, 12, 13, 14, 23, 24, 25] 128 K kx) = BWi R x (fun x' => K (tmWi x')) (ekWi R kx) := by
  cases x
  · kernel_rfl
noncomputable def HWi : LS := loopH T K27 (fun _ => none) (ntOf Tryz.prog 12) (lp (codeOf Tryz.prog 12) 1) 0 [999999, 3, 12, 13, 14, 23, 24, 25] 128 extWi BWi ekWi
theorem HWi_ok : LoopTk Tryz.prog T (ntOf Tryz.prog 12) 0 (lp (codeOf Tryz.prog 12) 1) HWi :=
  loopH_ok follows T_ok hK27 hS27 loNat_none (loopsOK_none _) tmWi extWi_ok stepWi
def tmWo : PWo → Vm.St
  | .m bs xs n i => ⟨[(3, .o 0 1), (12, .v 39 (.l xs)), (13, .i .i64 n), (14, .i .i64 i)], (.n (some (.row 5 1 bs false false)) .e .e), [], 1, some []⟩
def ekWo (R : Type) (kx : Exit → Vm.St → Option R) : QWo → Option R
  | .o bs xs n i => kx (.exit 0) ⟨[(3, .o 0 1), (12, .v 39 (.l xs)), (13, .i .i64 n), (14, .i .i64 i)], (.n (some (.row 5 1 bs false false)) .e .e), [], 256, some []⟩
def extWo : Vm.St → Option PWo
  | ⟨[(3, .o 0 1), (12, .v 39 (.l xs)), (13, .i .i64 n), (14, .i .i64 i)], (.n (some (.row 5 1 bs false false)) .e .e), [], 1, some []⟩ => some (.m bs xs n i)
  | _ => none
theorem extWo_ok (τ : Vm.St) (x : PWo) (h : extWo τ = some x) : τ = tmWo x := by
  unfold extWo at h
  split at h <;> first | (cases h; rfl) | cases h
theorem stepWo (R : Type) (of : Nat → Option Ob) (x : PWo) (K : Vm.St → Option R) (kx : Exit → Vm.St → Option R) : execC T K27 (loT [(7, HWi)]) false FU (ntOf Tryz.prog 12) of R (lp (codeOf Tryz.prog 12) 0) (tmWo x) (sortN 0 [999999, 3, 12, 13, 14] 256 K kx) = BWo R x (fun x' => K (tmWo x')) (ekWo R kx) := by
  cases x
  · kernel_rfl
noncomputable def HWo : LS := loopH T K27 (loT [(7, HWi)]) (ntOf Tryz.prog 12) (lp (codeOf Tryz.prog 12) 0) 0 [999999, 3, 12, 13, 14] 256 extWo BWo ekWo
theorem HWo_ok : LoopTk Tryz.prog T (ntOf Tryz.prog 12) 0 (lp (codeOf Tryz.prog 12) 0) HWo :=
  loopH_ok follows T_ok hK27 hS27 (loT_nat (List.forall_mem_cons.2 ⟨HWi_ok.1, fun _ h => by cases h⟩)) (loopsOK_at 1 (by kernel_rfl) ⟨trivial, loI (s0 := HWi) (by kernel_rfl) ((show lp (lp (codeOf Tryz.prog 12) 0) 0 = lp (codeOf Tryz.prog 12) 1 from by kernel_rfl) ▸ HWi_ok)⟩) tmWo extWo_ok stepWo
noncomputable def LoUW : Nat → LC := atN 0 [(3, HWo)]
theorem LoUW_ok : LoopsC Tryz.prog T 12 LoUW := loopsC_at 0 (List.forall_mem_cons.2 ⟨HWo_ok.1, fun _ h => by cases h⟩) 2 (by kernel_rfl) ⟨⟨trivial, loI (s0 := HWo) (by kernel_rfl) HWo_ok⟩, loN (by kernel_rfl)⟩
theorem run_uW (xs : List V) : runFC Tryz.prog T K27 LoUW false FU 12 (List Rs) (mkAs T [39] [.l xs]) (fun _ => none) 0 (fun out => resC T true [.r 5] out) = unG BWo 5 xs := by kernel_rfl
theorem run_uWN  : runFC Tryz.prog T K27 LoUW false FU 12 (List Rs) (mkAs T [39] [.n]) (fun _ => none) 0 (fun out => resC T true [.r 5] out) = some (unr 5 [.n]) := by kernel_rfl
noncomputable def tab28 : List (Nat × SymC) := (12, pureS T true [39] (gF ung (unr 5))) :: tab27
theorem tab28_ok : TabOK Tryz.prog T tab28 := by
  refine pure_conG (sh := true) (rk := [.r 5]) (d := 4) (fu := FU) (Lo := LoUW) (ds := [.slice (.slice DSpent)]) follows T_ok tab27_ok (by kernel_rfl) LoUW_ok 40 (by kernel_rfl) (fun xs hd hg => ?_)
  obtain ⟨a, rfl, ha⟩ := hasL1 hd
  rcases ha with rfl | ⟨ys, rfl, hy⟩
  · exact run_uWN
  · exact (run_uW ys).trans (unG_law hy hg).1
noncomputable def K28 : KC := runAC Tryz.prog T tab28 false FU 4
theorem hK28 : K28.nat := runAC_nat tab28_ok 4
theorem hS28 : KOK Tryz.prog T K28.dir := runAC_ok follows T_ok tab28_ok 4
def tmDi : PDi → Vm.St
  | .m bs xs n i l n2 i2 => ⟨[(3, .o 0 1), (12, .v 39 (.l xs)), (13, .i .i64 n), (14, .i .i64 i), (24, .v 43 l), (25, .i .i64 n2), (26, .i .i64 i2)], (.n (some (.row 5 1 bs false false)) .e .e), [], 1, some []⟩
def ekDi (R : Type) (kx : Exit → Vm.St → Option R) : QDi → Option R
  | .o bs xs n i l n2 i2 => kx (.exit 2) ⟨[(3, .o 0 1), (12, .v 39 (.l xs)), (13, .i .i64 n), (14, .i .i64 i), (24, .v 43 l), (25, .i .i64 n2), (26, .i .i64 i2)], (.n (some (.row 5 1 bs false false)) .e .e), [], 128, some []⟩
def extDi : Vm.St → Option PDi
  | ⟨[(3, .o 0 1), (12, .v 39 (.l xs)), (13, .i .i64 n), (14, .i .i64 i), (24, .v 43 l), (25, .i .i64 n2), (26, .i .i64 i2)], (.n (some (.row 5 1 bs false false)) .e .e), [], 1, some []⟩ => some (.m bs xs n i l n2 i2)
  | _ => none
theorem extDi_ok (τ : Vm.St) (x : PDi) (h : extDi τ = some x) : τ = tmDi x := by
  unfold extDi at h
  split at h <;> first | (cases h; rfl) | cases h
theorem stepDi (R : Type) (of : Nat → Option Ob) (x : PDi) (K : Vm.St → Option R) (kx : Exit → Vm.St → Option R) : execC T K28 (fun _ => none) false FU (ntOf Tryz.prog 10) of R (lp (codeOf Tryz.prog 10) 1) (tmDi x) (sortN 0 [999999, 3, 12, 13, 14, 24, 25, 26] 128 K kx) = BDi R x (fun x' => K (tmDi x')) (ekDi R kx) := by
  cases x
  · kernel_rfl
noncomputable def HDi : LS := loopH T K28 (fun _ => none) (ntOf Tryz.prog 10) (lp (codeOf Tryz.prog 10) 1) 0 [999999, 3, 12, 13, 14, 24, 25, 26] 128 extDi BDi ekDi
theorem HDi_ok : LoopTk Tryz.prog T (ntOf Tryz.prog 10) 0 (lp (codeOf Tryz.prog 10) 1) HDi :=
  loopH_ok follows T_ok hK28 hS28 loNat_none (loopsOK_none _) tmDi extDi_ok stepDi
def tmDo : PDo → Vm.St
  | .m bs xs n i => ⟨[(3, .o 0 1), (12, .v 39 (.l xs)), (13, .i .i64 n), (14, .i .i64 i)], (.n (some (.row 5 1 bs false false)) .e .e), [], 1, some []⟩
def ekDo (R : Type) (kx : Exit → Vm.St → Option R) : QDo → Option R
  | .o bs xs n i => kx (.exit 0) ⟨[(3, .o 0 1), (12, .v 39 (.l xs)), (13, .i .i64 n), (14, .i .i64 i)], (.n (some (.row 5 1 bs false false)) .e .e), [], 256, some []⟩
def extDo : Vm.St → Option PDo
  | ⟨[(3, .o 0 1), (12, .v 39 (.l xs)), (13, .i .i64 n), (14, .i .i64 i)], (.n (some (.row 5 1 bs false false)) .e .e), [], 1, some []⟩ => some (.m bs xs n i)
  | _ => none
theorem extDo_ok (τ : Vm.St) (x : PDo) (h : extDo τ = some x) : τ = tmDo x := by
  unfold extDo at h
  split at h <;> first | (cases h; rfl) | cases h
theorem stepDo (R : Type) (of : Nat → Option Ob) (x : PDo) (K : Vm.St → Option R) (kx : Exit → Vm.St → Option R) : execC T K28 (loT [(7, HDi)]) false FU (ntOf Tryz.prog 10) of R (lp (codeOf Tryz.prog 10) 0) (tmDo x) (sortN 0 [999999, 3, 12, 13, 14] 256 K kx) = BDo R x (fun x' => K (tmDo x')) (ekDo R kx) := by
  cases x
  · kernel_rfl
noncomputable def HDo : LS := loopH T K28 (loT [(7, HDi)]) (ntOf Tryz.prog 10) (lp (codeOf Tryz.prog 10) 0) 0 [999999, 3, 12, 13, 14] 256 extDo BDo ekDo
theorem HDo_ok : LoopTk Tryz.prog T (ntOf Tryz.prog 10) 0 (lp (codeOf Tryz.prog 10) 0) HDo :=
  loopH_ok follows T_ok hK28 hS28 (loT_nat (List.forall_mem_cons.2 ⟨HDi_ok.1, fun _ h => by cases h⟩)) (loopsOK_at 1 (by kernel_rfl) ⟨trivial, loI (s0 := HDi) (by kernel_rfl) ((show lp (lp (codeOf Tryz.prog 10) 0) 0 = lp (codeOf Tryz.prog 10) 1 from by kernel_rfl) ▸ HDi_ok)⟩) tmDo extDo_ok stepDo
noncomputable def LoUD : Nat → LC := atN 0 [(3, HDo)]
theorem LoUD_ok : LoopsC Tryz.prog T 10 LoUD := loopsC_at 0 (List.forall_mem_cons.2 ⟨HDo_ok.1, fun _ h => by cases h⟩) 2 (by kernel_rfl) ⟨⟨trivial, loI (s0 := HDo) (by kernel_rfl) HDo_ok⟩, loN (by kernel_rfl)⟩
theorem run_uD (xs : List V) : runFC Tryz.prog T K28 LoUD false FU 10 (List Rs) (mkAs T [39] [.l xs]) (fun _ => none) 0 (fun out => resC T true [.r 5] out) = unG BDo 5 xs := by kernel_rfl
theorem run_uDN  : runFC Tryz.prog T K28 LoUD false FU 10 (List Rs) (mkAs T [39] [.n]) (fun _ => none) 0 (fun out => resC T true [.r 5] out) = some (unr 5 [.n]) := by kernel_rfl
noncomputable def tab29 : List (Nat × SymC) := (10, pureS T true [39] (gF ung (unr 5))) :: tab28
theorem tab29_ok : TabOK Tryz.prog T tab29 := by
  refine pure_conG (sh := true) (rk := [.r 5]) (d := 4) (fu := FU) (Lo := LoUD) (ds := [.slice (.slice DSpent)]) follows T_ok tab28_ok (by kernel_rfl) LoUD_ok 40 (by kernel_rfl) (fun xs hd hg => ?_)
  obtain ⟨a, rfl, ha⟩ := hasL1 hd
  rcases ha with rfl | ⟨ys, rfl, hy⟩
  · exact run_uDN
  · exact (run_uD ys).trans (unG_law hy hg).2
noncomputable def K29 : KC := runAC Tryz.prog T tab29 false FU 4
theorem hK29 : K29.nat := runAC_nat tab29_ok 4
theorem hS29 : KOK Tryz.prog T K29.dir := runAC_ok follows T_ok tab29_ok 4
end Go.Proofs.YtkaobamodajniaaGreat

namespace Go.Proofs.YtkaobamodajniaaGreat
open Go.Vm
set_option maxRecDepth 100000
set_option linter.unusedVariables false
set_option linter.constructorNameAsVariable false
theorem run_sc_true_true_ll (v v' h h' : Int) (k : List V) (k' : List V) : runFC Tryz.prog T K29 (fun _ _ => none) false FU 58 (List Rs) (mkAs T [84, 84] [.l [.l [.i v, .l k], .i h, .b true], .l [.l [.i v', .l k'], .i h', .b true]]) (fun _ => none) 0 (fun out => resC T true [.d 4] out) = scG 4 true true v v' h h' k k' := by kernel_rfl
theorem run_sc_true_true_ln (v v' h h' : Int) (k : List V) : runFC Tryz.prog T K29 (fun _ _ => none) false FU 58 (List Rs) (mkAs T [84, 84] [.l [.l [.i v, .l k], .i h, .b true], .l [.l [.i v', .n], .i h', .b true]]) (fun _ => none) 0 (fun out => resC T true [.d 4] out) = scG 4 true true v v' h h' k [] := by kernel_rfl
theorem run_sc_true_true_nl (v v' h h' : Int) (k' : List V) : runFC Tryz.prog T K29 (fun _ _ => none) false FU 58 (List Rs) (mkAs T [84, 84] [.l [.l [.i v, .n], .i h, .b true], .l [.l [.i v', .l k'], .i h', .b true]]) (fun _ => none) 0 (fun out => resC T true [.d 4] out) = scG 4 true true v v' h h' [] k' := by kernel_rfl
theorem run_sc_true_true_nn (v v' h h' : Int) : runFC Tryz.prog T K29 (fun _ _ => none) false FU 58 (List Rs) (mkAs T [84, 84] [.l [.l [.i v, .n], .i h, .b true], .l [.l [.i v', .n], .i h', .b true]]) (fun _ => none) 0 (fun out => resC T true [.d 4] out) = scG 4 true true v v' h h' [] [] := by kernel_rfl
theorem run_sc_true_false_ll (v v' h h' : Int) (k : List V) (k' : List V) : runFC Tryz.prog T K29 (fun _ _ => none) false FU 58 (List Rs) (mkAs T [84, 84] [.l [.l [.i v, .l k], .i h, .b true], .l [.l [.i v', .l k'], .i h', .b false]]) (fun _ => none) 0 (fun out => resC T true [.d 4] out) = scG 4 true false v v' h h' k k' := by kernel_rfl
theorem run_sc_true_false_ln (v v' h h' : Int) (k : List V) : runFC Tryz.prog T K29 (fun _ _ => none) false FU 58 (List Rs) (mkAs T [84, 84] [.l [.l [.i v, .l k], .i h, .b true], .l [.l [.i v', .n], .i h', .b false]]) (fun _ => none) 0 (fun out => resC T true [.d 4] out) = scG 4 true false v v' h h' k [] := by kernel_rfl
theorem run_sc_true_false_nl (v v' h h' : Int) (k' : List V) : runFC Tryz.prog T K29 (fun _ _ => none) false FU 58 (List Rs) (mkAs T [84, 84] [.l [.l [.i v, .n], .i h, .b true], .l [.l [.i v', .l k'], .i h', .b false]]) (fun _ => none) 0 (fun out => resC T true [.d 4] out) = scG 4 true false v v' h h' [] k' := by kernel_rfl
theorem run_sc_true_false_nn (v v' h h' : Int) : runFC Tryz.prog T K29 (fun _ _ => none) false FU 58 (List Rs) (mkAs T [84, 84] [.l [.l [.i v, .n], .i h, .b true], .l [.l [.i v', .n], .i h', .b false]]) (fun _ => none) 0 (fun out => resC T true [.d 4] out) = scG 4 true false v v' h h' [] [] := by kernel_rfl
theorem run_sc_false_true_ll (v v' h h' : Int) (k : List V) (k' : List V) : runFC Tryz.prog T K29 (fun _ _ => none) false FU 58 (List Rs) (mkAs T [84, 84] [.l [.l [.i v, .l k], .i h, .b false], .l [.l [.i v', .l k'], .i h', .b true]]) (fun _ => none) 0 (fun out => resC T true [.d 4] out) = scG 4 false true v v' h h' k k' := by kernel_rfl
theorem run_sc_false_true_ln (v v' h h' : Int) (k : List V) : runFC Tryz.prog T K29 (fun _ _ => none) false FU 58 (List Rs) (mkAs T [84, 84] [.l [.l [.i v, .l k], .i h, .b false], .l [.l [.i v', .n], .i h', .b true]]) (fun _ => none) 0 (fun out => resC T true [.d 4] out) = scG 4 false true v v' h h' k [] := by kernel_rfl
theorem run_sc_false_true_nl (v v' h h' : Int) (k' : List V) : runFC Tryz.prog T K29 (fun _ _ => none) false FU 58 (List Rs) (mkAs T [84, 84] [.l [.l [.i v, .n], .i h, .b false], .l [.l [.i v', .l k'], .i h', .b true]]) (fun _ => none) 0 (fun out => resC T true [.d 4] out) = scG 4 false true v v' h h' [] k' := by kernel_rfl
theorem run_sc_false_true_nn (v v' h h' : Int) : runFC Tryz.prog T K29 (fun _ _ => none) false FU 58 (List Rs) (mkAs T [84, 84] [.l [.l [.i v, .n], .i h, .b false], .l [.l [.i v', .n], .i h', .b true]]) (fun _ => none) 0 (fun out => resC T true [.d 4] out) = scG 4 false true v v' h h' [] [] := by kernel_rfl
theorem run_sc_false_false_ll (v v' h h' : Int) (k : List V) (k' : List V) : runFC Tryz.prog T K29 (fun _ _ => none) false FU 58 (List Rs) (mkAs T [84, 84] [.l [.l [.i v, .l k], .i h, .b false], .l [.l [.i v', .l k'], .i h', .b false]]) (fun _ => none) 0 (fun out => resC T true [.d 4] out) = scG 4 false false v v' h h' k k' := by kernel_rfl
theorem run_sc_false_false_ln (v v' h h' : Int) (k : List V) : runFC Tryz.prog T K29 (fun _ _ => none) false FU 58 (List Rs) (mkAs T [84, 84] [.l [.l [.i v, .l k], .i h, .b false], .l [.l [.i v', .n], .i h', .b false]]) (fun _ => none) 0 (fun out => resC T true [.d 4] out) = scG 4 false false v v' h h' k [] := by kernel_rfl
theorem run_sc_false_false_nl (v v' h h' : Int) (k' : List V) : runFC Tryz.prog T K29 (fun _ _ => none) false FU 58 (List Rs) (mkAs T [84, 84] [.l [.l [.i v, .n], .i h, .b false], .l [.l [.i v', .l k'], .i h', .b false]]) (fun _ => none) 0 (fun out => resC T true [.d 4] out) = scG 4 false false v v' h h' [] k' := by kernel_rfl
theorem run_sc_false_false_nn (v v' h h' : Int) : runFC Tryz.prog T K29 (fun _ _ => none) false FU 58 (List Rs) (mkAs T [84, 84] [.l [.l [.i v, .n], .i h, .b false], .l [.l [.i v', .n], .i h', .b false]]) (fun _ => none) 0 (fun out => resC T true [.d 4] out) = scG 4 false false v v' h h' [] [] := by kernel_rfl
noncomputable def tab30 : List (Nat × SymC) := (58, pureS T true [84, 84] (ynF 4 (fun _ => true) (two sameC))) :: tab29
theorem tab30_ok : TabOK Tryz.prog T tab30 := by
  refine pure_con (sh := true) (rk := [.d 4]) (d := 4) (fu := FU) (Lo := (fun _ _ => none)) follows T_ok tab29_ok (ynF_nat 4 (fun _ => true) (two sameC)) (by kernel_rfl) loopsC_none (fun xs rs htv hrs => ?_)
  obtain ⟨a, b, rfl, ha, hb⟩ := hasL2 (htv.has 40 (ds := [DCoin, DCoin]) (by kernel_rfl))
  obtain ⟨hg, rfl⟩ := ynF_at hrs
  obtain ⟨v, k, h, q, rfl, hk⟩ := coin_v ha
  obtain ⟨v', k', h', q', rfl, hk'⟩ := coin_v hb
  rcases bytes_v hk with rfl | ⟨ys, rfl⟩ <;> rcases bytes_v hk' with rfl | ⟨zs, rfl⟩ <;> cases q <;> cases q'
  · exact (run_sc_false_false_nn v v' h h').trans (scG_law (k := .n) (k' := .n))
  · exact (run_sc_false_true_nn v v' h h').trans (scG_law (k := .n) (k' := .n))
  · exact (run_sc_true_false_nn v v' h h').trans (scG_law (k := .n) (k' := .n))
  · exact (run_sc_true_true_nn v v' h h').trans (scG_law (k := .n) (k' := .n))
  · exact (run_sc_false_false_nl v v' h h' zs).trans (scG_law (k := .n) (k' := .l zs))
  · exact (run_sc_false_true_nl v v' h h' zs).trans (scG_law (k := .n) (k' := .l zs))
  · exact (run_sc_true_false_nl v v' h h' zs).trans (scG_law (k := .n) (k' := .l zs))
  · exact (run_sc_true_true_nl v v' h h' zs).trans (scG_law (k := .n) (k' := .l zs))
  · exact (run_sc_false_false_ln v v' h h' ys).trans (scG_law (k := .l ys) (k' := .n))
  · exact (run_sc_false_true_ln v v' h h' ys).trans (scG_law (k := .l ys) (k' := .n))
  · exact (run_sc_true_false_ln v v' h h' ys).trans (scG_law (k := .l ys) (k' := .n))
  · exact (run_sc_true_true_ln v v' h h' ys).trans (scG_law (k := .l ys) (k' := .n))
  · exact (run_sc_false_false_ll v v' h h' ys zs).trans (scG_law (k := .l ys) (k' := .l zs))
  · exact (run_sc_false_true_ll v v' h h' ys zs).trans (scG_law (k := .l ys) (k' := .l zs))
  · exact (run_sc_true_false_ll v v' h h' ys zs).trans (scG_law (k := .l ys) (k' := .l zs))
  · exact (run_sc_true_true_ll v v' h h' ys zs).trans (scG_law (k := .l ys) (k' := .l zs))
noncomputable def K30 : KC := runAC Tryz.prog T tab30 false FU 4
theorem hK30 : K30.nat := runAC_nat tab30_ok 4
theorem hS30 : KOK Tryz.prog T K30.dir := runAC_ok follows T_ok tab30_ok 4
def tmSm : PSm → Vm.St
  | .m x y n i => ⟨[(0, .v 43 x), (1, .v 43 y), (4, .b false), (12, .i .i64 n), (13, .i .i64 i)], .e, [], 0, some []⟩
def ekSm (R : Type) (kx : Exit → Vm.St → Option R) : QSm → Option R
  | .o x y n i => kx (.exit 0) ⟨[(0, .v 43 x), (1, .v 43 y), (4, .b false), (12, .i .i64 n), (13, .i .i64 i)], .e, [], 16, some []⟩
  | .r x y n i => kx (.ret) ⟨[(0, .v 43 x), (1, .v 43 y), (4, .b false), (12, .i .i64 n), (13, .i .i64 i)], .e, [], 16, some []⟩
def extSm : Vm.St → Option PSm
  | ⟨[(0, .v 43 x), (1, .v 43 y), (4, .b false), (12, .i .i64 n), (13, .i .i64 i)], .e, [], 0, some []⟩ => some (.m x y n i)
  | _ => none
theorem extSm_ok (τ : Vm.St) (x : PSm) (h : extSm τ = some x) : τ = tmSm x := by
  unfold extSm at h
  split at h <;> first | (cases h; rfl) | cases h
theorem stepSm (R : Type) (of : Nat → Option Ob) (x : PSm) (K : Vm.St → Option R) (kx : Exit → Vm.St → Option R) : execC T K30 (fun _ => none) false FU (ntOf Tryz.prog 38) of R (lp (codeOf Tryz.prog 38) 0) (tmSm x) (sortN 0 [0, 1, 4, 12, 13] 16 K kx) = BSm R x (fun x' => K (tmSm x')) (ekSm R kx) := by
  cases x
  · kernel_rfl
noncomputable def HSm : LS := loopH T K30 (fun _ => none) (ntOf Tryz.prog 38) (lp (codeOf Tryz.prog 38) 0) 0 [0, 1, 4, 12, 13] 16 extSm BSm ekSm
theorem HSm_ok : LoopTk Tryz.prog T (ntOf Tryz.prog 38) 0 (lp (codeOf Tryz.prog 38) 0) HSm :=
  loopH_ok follows T_ok hK30 hS30 loNat_none (loopsOK_none _) tmSm extSm_ok stepSm
noncomputable def LoSm : Nat → LC := atN 0 [(4, HSm)]
theorem LoSm_ok : LoopsC Tryz.prog T 38 LoSm := loopsC_at 0 (List.forall_mem_cons.2 ⟨HSm_ok.1, fun _ h => by cases h⟩) 1 (by kernel_rfl) ⟨trivial, loI (s0 := HSm) (by kernel_rfl) HSm_ok⟩
theorem run_Sm_ll (xs ys : List V) : runFC Tryz.prog T K30 LoSm false FU 38 (List Rs) (mkAs T [43, 43] [.l xs, .l ys]) (fun _ => none) 0 (fun out => resC T true [.d 4] out) = smG BSm 4 (.l xs) (.l ys) := by kernel_rfl
theorem run_Sm_ln (xs : List V) : runFC Tryz.prog T K30 LoSm false FU 38 (List Rs) (mkAs T [43, 43] [.l xs, .n]) (fun _ => none) 0 (fun out => resC T true [.d 4] out) = smG BSm 4 (.l xs) (.n) := by kernel_rfl
theorem run_Sm_nl (ys : List V) : runFC Tryz.prog T K30 LoSm false FU 38 (List Rs) (mkAs T [43, 43] [.n, .l ys]) (fun _ => none) 0 (fun out => resC T true [.d 4] out) = smG BSm 4 (.n) (.l ys) := by kernel_rfl
theorem run_Sm_nn  : runFC Tryz.prog T K30 LoSm false FU 38 (List Rs) (mkAs T [43, 43] [.n, .n]) (fun _ => none) 0 (fun out => resC T true [.d 4] out) = smG BSm 4 (.n) (.n) := by kernel_rfl
noncomputable def tab31 : List (Nat × SymC) := (38, pureS T true [43, 43] (ynF 4 (two lenW) (two rowsSame))) :: tab30
theorem tab31_ok : TabOK Tryz.prog T tab31 := by
  refine pure_con (sh := true) (rk := [.d 4]) (d := 4) (fu := FU) (Lo := LoSm) follows T_ok tab30_ok (ynF_nat 4 (two lenW) (two rowsSame)) (by kernel_rfl) LoSm_ok (fun xs rs htv hrs => ?_)
  obtain ⟨a, b, rfl, ha, hb⟩ := hasL2 (htv.has 40 (ds := [.slice DSpent, .slice DSpent]) (by kernel_rfl))
  obtain ⟨hg, rfl⟩ := ynF_at hrs
  rcases ha with rfl | ⟨xs, rfl, _⟩ <;> rcases hb with rfl | ⟨ys, rfl, _⟩
  · exact run_Sm_nn.trans (smG_law hg)
  · exact (run_Sm_nl ys).trans (smG_law hg)
  · exact (run_Sm_ln xs).trans (smG_law hg)
  · exact (run_Sm_ll xs ys).trans (smG_law hg)
noncomputable def K31 : KC := runAC Tryz.prog T tab31 false FU 4
theorem hK31 : K31.nat := runAC_nat tab31_ok 4
theorem hS31 : KOK Tryz.prog T K31.dir := runAC_ok follows T_ok tab31_ok 4
def tmSu : PSu → Vm.St
  | .m x y n i => ⟨[(0, .v 39 x), (1, .v 39 y), (4, .b false), (12, .i .i64 n), (13, .i .i64 i)], .e, [], 0, some []⟩
def ekSu (R : Type) (kx : Exit → Vm.St → Option R) : QSu → Option R
  | .o x y n i => kx (.exit 0) ⟨[(0, .v 39 x), (1, .v 39 y), (4, .b false), (12, .i .i64 n), (13, .i .i64 i)], .e, [], 16, some []⟩
  | .r x y n i => kx (.ret) ⟨[(0, .v 39 x), (1, .v 39 y), (4, .b false), (12, .i .i64 n), (13, .i .i64 i)], .e, [], 16, some []⟩
def extSu : Vm.St → Option PSu
  | ⟨[(0, .v 39 x), (1, .v 39 y), (4, .b false), (12, .i .i64 n), (13, .i .i64 i)], .e, [], 0, some []⟩ => some (.m x y n i)
  | _ => none
theorem extSu_ok (τ : Vm.St) (x : PSu) (h : extSu τ = some x) : τ = tmSu x := by
  unfold extSu at h
  split at h <;> first | (cases h; rfl) | cases h
theorem stepSu (R : Type) (of : Nat → Option Ob) (x : PSu) (K : Vm.St → Option R) (kx : Exit → Vm.St → Option R) : execC T K31 (fun _ => none) false FU (ntOf Tryz.prog 13) of R (lp (codeOf Tryz.prog 13) 0) (tmSu x) (sortN 0 [0, 1, 4, 12, 13] 16 K kx) = BSu R x (fun x' => K (tmSu x')) (ekSu R kx) := by
  cases x
  · kernel_rfl
noncomputable def HSu : LS := loopH T K31 (fun _ => none) (ntOf Tryz.prog 13) (lp (codeOf Tryz.prog 13) 0) 0 [0, 1, 4, 12, 13] 16 extSu BSu ekSu
theorem HSu_ok : LoopTk Tryz.prog T (ntOf Tryz.prog 13) 0 (lp (codeOf Tryz.prog 13) 0) HSu :=
  loopH_ok follows T_ok hK31 hS31 loNat_none (loopsOK_none _) tmSu extSu_ok stepSu
noncomputable def LoSu : Nat → LC := atN 0 [(4, HSu)]
theorem LoSu_ok : LoopsC Tryz.prog T 13 LoSu := loopsC_at 0 (List.forall_mem_cons.2 ⟨HSu_ok.1, fun _ h => by cases h⟩) 1 (by kernel_rfl) ⟨trivial, loI (s0 := HSu) (by kernel_rfl) HSu_ok⟩
theorem run_Su_ll (xs ys : List V) : runFC Tryz.prog T K31 LoSu false FU 13 (List Rs) (mkAs T [39, 39] [.l xs, .l ys]) (fun _ => none) 0 (fun out => resC T true [.d 4] out) = smG BSu 4 (.l xs) (.l ys) := by kernel_rfl
theorem run_Su_ln (xs : List V) : runFC Tryz.prog T K31 LoSu false FU 13 (List Rs) (mkAs T [39, 39] [.l xs, .n]) (fun _ => none) 0 (fun out => resC T true [.d 4] out) = smG BSu 4 (.l xs) (.n) := by kernel_rfl
theorem run_Su_nl (ys : List V) : runFC Tryz.prog T K31 LoSu false FU 13 (List Rs) (mkAs T [39, 39] [.n, .l ys]) (fun _ => none) 0 (fun out => resC T true [.d 4] out) = smG BSu 4 (.n) (.l ys) := by kernel_rfl
theorem run_Su_nn  : runFC Tryz.prog T K31 LoSu false FU 13 (List Rs) (mkAs T [39, 39] [.n, .n]) (fun _ => none) 0 (fun out => resC T true [.d 4] out) = smG BSu 4 (.n) (.n) := by kernel_rfl
noncomputable def tab32 : List (Nat × SymC) := (13, pureS T true [39, 39] (ynF 4 (two lenU) (two sameU))) :: tab31
theorem tab32_ok : TabOK Tryz.prog T tab32 := by
  refine pure_con (sh := true) (rk := [.d 4]) (d := 4) (fu := FU) (Lo := LoSu) follows T_ok tab31_ok (ynF_nat 4 (two lenU) (two sameU)) (by kernel_rfl) LoSu_ok (fun xs rs htv hrs => ?_)
  obtain ⟨a, b, rfl, ha, hb⟩ := hasL2 (htv.has 40 (ds := [.slice (.slice DSpent), .slice (.slice DSpent)]) (by kernel_rfl))
  obtain ⟨hg, rfl⟩ := ynF_at hrs
  rcases ha with rfl | ⟨xs, rfl, _⟩ <;> rcases hb with rfl | ⟨ys, rfl, _⟩
  · exact run_Su_nn.trans (suG_law hg)
  · exact (run_Su_nl ys).trans (suG_law hg)
  · exact (run_Su_ln xs).trans (suG_law hg)
  · exact (run_Su_ll xs ys).trans (suG_law hg)
noncomputable def K32 : KC := runAC Tryz.prog T tab32 false FU 4
theorem hK32 : K32.nat := runAC_nat tab32_ok 4
theorem hS32 : KOK Tryz.prog T K32.dir := runAC_ok follows T_ok tab32_ok 4
def tmRi : PRi → Vm.St
  | .m xs s kk n i sp lk n2 j => ⟨[(1, .v 22 .n), (4, .b false), (5, .i .i64 s), (6, .i .i64 kk), (8, .p 0 86 []), (13, .v 43 (.l xs)), (14, .i .i64 n), (15, .i .i64 i), (39, .v 23 lk), (40, .i .i64 n2), (41, .i .i64 j)], (.n (some (.box 86 (.v 86 sp) false)) .e .e), [], 1, some []⟩
def ekRi (R : Type) (kx : Exit → Vm.St → Option R) : QRi → Option R
  | .o xs s kk n i sp lk n2 j => kx (.exit 2) ⟨[(1, .v 22 .n), (4, .b false), (5, .i .i64 s), (6, .i .i64 kk), (8, .p 0 86 []), (13, .v 43 (.l xs)), (14, .i .i64 n), (15, .i .i64 i), (39, .v 23 lk), (40, .i .i64 n2), (41, .i .i64 j)], (.n (some (.box 86 (.v 86 sp) false)) .e .e), [], 128, some []⟩
def extRi : Vm.St → Option PRi
  | ⟨[(1, .v 22 .n), (4, .b false), (5, .i .i64 s), (6, .i .i64 kk), (8, .p 0 86 []), (13, .v 43 (.l xs)), (14, .i .i64 n), (15, .i .i64 i), (39, .v 23 lk), (40, .i .i64 n2), (41, .i .i64 j)], (.n (some (.box 86 (.v 86 sp) false)) .e .e), [], 1, some []⟩ => some (.m xs s kk n i sp lk n2 j)
  | _ => none
theorem extRi_ok (τ : Vm.St) (x : PRi) (h : extRi τ = some x) : τ = tmRi x := by
  unfold extRi at h
  split at h <;> first | (cases h; rfl) | cases h
theorem stepRi (R : Type) (of : Nat → Option Ob) (x : PRi) (K : Vm.St → Option R) (kx : Exit → Vm.St → Option R) : execC T K32 (fun _ => none) false FU (ntOf Tryz.prog 11) of R (lp (codeOf Tryz.prog 11) 1) (tmRi x) (sortN 0 [999999, 1, 4, 5, 6, 8, 13, 14, 15, 39, 40, 41] 128 K kx) = BRi R x (fun x' => K (tmRi x')) (ekRi R kx) := by
  cases x
  · kernel_rfl
noncomputable def HRi : LS := loopH T K32 (fun _ => none) (ntOf Tryz.prog 11) (lp (codeOf Tryz.prog 11) 1) 0 [999999, 1, 4, 5, 6, 8, 13, 14, 15, 39, 40, 41] 128 extRi BRi ekRi
theorem HRi_ok : LoopTk Tryz.prog T (ntOf Tryz.prog 11) 0 (lp (codeOf Tryz.prog 11) 1) HRi :=
  loopH_ok follows T_ok hK32 hS32 loNat_none (loopsOK_none _) tmRi extRi_ok stepRi
def tmRo : PRo → Vm.St
  | .m xs s kk n i => ⟨[(1, .v 22 .n), (4, .b false), (5, .i .i64 s), (6, .i .i64 kk), (13, .v 43 (.l xs)), (14, .i .i64 n), (15, .i .i64 i)], .e, [], 0, some []⟩
def ekRo (R : Type) (kx : Exit → Vm.St → Option R) : QRo → Option R
  | .o xs s kk n i => kx (.exit 0) ⟨[(1, .v 22 .n), (4, .b false), (5, .i .i64 s), (6, .i .i64 kk), (13, .v 43 (.l xs)), (14, .i .i64 n), (15, .i .i64 i)], .e, [], 256, some []⟩
  | .r xs s kk n i => kx (.ret) ⟨[(1, .v 22 .n), (4, .b false), (5, .i .i64 s), (6, .i .i64 kk), (13, .v 43 (.l xs)), (14, .i .i64 n), (15, .i .i64 i)], .e, [], 256, some []⟩
def extRo : Vm.St → Option PRo
  | ⟨[(1, .v 22 .n), (4, .b false), (5, .i .i64 s), (6, .i .i64 kk), (13, .v 43 (.l xs)), (14, .i .i64 n), (15, .i .i64 i)], .e, [], 0, some []⟩ => some (.m xs s kk n i)
  | _ => none
theorem extRo_ok (τ : Vm.St) (x : PRo) (h : extRo τ = some x) : τ = tmRo x := by
  unfold extRo at h
  split at h <;> first | (cases h; rfl) | cases h
theorem stepRo (R : Type) (of : Nat → Option Ob) (x : PRo) (K : Vm.St → Option R) (kx : Exit → Vm.St → Option R) : execC T K32 (loT [(8, HRi)]) false FU (ntOf Tryz.prog 11) of R (lp (codeOf Tryz.prog 11) 0) (tmRo x) (sortN 0 [999999, 1, 4, 5, 6, 13, 14, 15] 256 K kx) = BRo R x (fun x' => K (tmRo x')) (ekRo R kx) := by
  cases x
  · kernel_rfl
noncomputable def HRo : LS := loopH T K32 (loT [(8, HRi)]) (ntOf Tryz.prog 11) (lp (codeOf Tryz.prog 11) 0) 0 [999999, 1, 4, 5, 6, 13, 14, 15] 256 extRo BRo ekRo
theorem HRo_ok : LoopTk Tryz.prog T (ntOf Tryz.prog 11) 0 (lp (codeOf Tryz.prog 11) 0) HRo :=
  loopH_ok follows T_ok hK32 hS32 (loT_nat (List.forall_mem_cons.2 ⟨HRi_ok.1, fun _ h => by cases h⟩)) (loopsOK_at 1 (by kernel_rfl) ⟨trivial, loI (s0 := HRi) (by kernel_rfl) ((show lp (lp (codeOf Tryz.prog 11) 0) 0 = lp (codeOf Tryz.prog 11) 1 from by kernel_rfl) ▸ HRi_ok)⟩) tmRo extRo_ok stepRo
noncomputable def LoRg : Nat → LC := atN 0 [(3, HRo)]
theorem LoRg_ok : LoopsC Tryz.prog T 11 LoRg := loopsC_at 0 (List.forall_mem_cons.2 ⟨HRo_ok.1, fun _ h => by cases h⟩) 3 (by kernel_rfl) ⟨⟨⟨trivial, loI (s0 := HRo) (by kernel_rfl) HRo_ok⟩, loN (by kernel_rfl)⟩, loN (by kernel_rfl)⟩
theorem run_rg (xs : List V) : runFC Tryz.prog T K32 LoRg false FU 11 (List Rs) (mkAs T [43, 22] [.l xs, .n]) (fun _ => none) 0 (fun out => resC T true [.d 4] out) = rgG 4 xs := by kernel_rfl
theorem run_rgN  : runFC Tryz.prog T K32 LoRg false FU 11 (List Rs) (mkAs T [43, 22] [.n, .n]) (fun _ => none) 0 (fun out => resC T true [.d 4] out) = some [.d 4 (.b true)] := by kernel_rfl
noncomputable def tab33 : List (Nat × SymC) := (11, pureS T true [43, 22] (ynF 4 rgg rgf)) :: tab32
theorem tab33_ok : TabOK Tryz.prog T tab33 := by
  refine pure_con (sh := true) (rk := [.d 4]) (d := 4) (fu := FU) (Lo := LoRg) follows T_ok tab32_ok (ynF_nat 4 rgg rgf) (by kernel_rfl) LoRg_ok (fun xs rs htv hrs => ?_)
  obtain ⟨a, b, rfl, ha, hb⟩ := hasL2 (htv.has 40 (ds := [.slice DSpent, .slice DEnt]) (by kernel_rfl))
  obtain ⟨hg, rfl⟩ := ynF_at hrs
  rcases hb with rfl | ⟨zs, rfl, _⟩
  · rcases ha with rfl | ⟨ys, rfl, _⟩
    · exact run_rgN
    · exact (run_rg ys).trans (rgG_law hg)
  · cases hg
noncomputable def K33 : KC := runAC Tryz.prog T tab33 false FU 4
theorem hK33 : K33.nat := runAC_nat tab33_ok 4
theorem hS33 : KOK Tryz.prog T K33.dir := runAC_ok follows T_ok tab33_ok 4
end Go.Proofs.YtkaobamodajniaaGreat

namespace Go.Proofs.YtkaobamodajniaaGreat
open Go.Vm
set_option maxRecDepth 100000
set_option linter.unusedVariables false
set_option linter.constructorNameAsVariable false
noncomputable def tab34 : List (Nat × SymC) := (5, aliveC) :: tab33
theorem tab34_ok : TabOK Tryz.prog T tab34 := tab33_ok.cons aliveC_nat alive
noncomputable def K34 : KC := runAC Tryz.prog T tab34 false FU 4
theorem hK34 : K34.nat := runAC_nat tab34_ok 4
theorem hS34 : KOK Tryz.prog T K34.dir := runAC_ok follows T_ok tab34_ok 4
def tmLb : PLb → Vm.St
  | .m x y n i => ⟨[(0, .v 39 x), (4, .b false), (50, .v 39 y), (51, .i .i64 n), (52, .i .i64 i)], .e, [], 0, some []⟩
def ekLb (R : Type) (kx : Exit → Vm.St → Option R) : QLb → Option R
  | .o x y n i => kx (.exit 0) ⟨[(0, .v 39 x), (4, .b false), (50, .v 39 y), (51, .i .i64 n), (52, .i .i64 i)], .e, [], 64, some []⟩
  | .r x y n i => kx (.ret) ⟨[(0, .v 39 x), (4, .b true), (50, .v 39 y), (51, .i .i64 n), (52, .i .i64 i)], .e, [], 64, some []⟩
def extLb : Vm.St → Option PLb
  | ⟨[(0, .v 39 x), (4, .b false), (50, .v 39 y), (51, .i .i64 n), (52, .i .i64 i)], .e, [], 0, some []⟩ => some (.m x y n i)
  | _ => none
theorem extLb_ok (τ : Vm.St) (x : PLb) (h : extLb τ = some x) : τ = tmLb x := by
  unfold extLb at h
  split at h <;> first | (cases h; rfl) | cases h
theorem stepLb (R : Type) (of : Nat → Option Ob) (x : PLb) (K : Vm.St → Option R) (kx : Exit → Vm.St → Option R) : execC T K34 (fun _ => none) false FU (ntOf Tryz.prog 4) of R (lp (codeOf Tryz.prog 4) 0) (tmLb x) (sortN 0 [0, 4, 50, 51, 52] 64 K kx) = BLb R x (fun x' => K (tmLb x')) (ekLb R kx) := by
  cases x
  · kernel_rfl
noncomputable def HLb : LS := loopH T K34 (fun _ => none) (ntOf Tryz.prog 4) (lp (codeOf Tryz.prog 4) 0) 0 [0, 4, 50, 51, 52] 64 extLb BLb ekLb
theorem HLb_ok : LoopTk Tryz.prog T (ntOf Tryz.prog 4) 0 (lp (codeOf Tryz.prog 4) 0) HLb :=
  loopH_ok follows T_ok hK34 hS34 loNat_none (loopsOK_none _) tmLb extLb_ok stepLb
noncomputable def LoLb : Nat → LC := atN 0 [(9, HLb)]
theorem LoLb_ok : LoopsC Tryz.prog T 4 LoLb := loopsC_at 0 (List.forall_mem_cons.2 ⟨HLb_ok.1, fun _ h => by cases h⟩) 1 (by kernel_rfl) ⟨trivial, loI (s0 := HLb) (by kernel_rfl) HLb_ok⟩
theorem run_b1 (us bs : List V) : runFC Tryz.prog T K34 LoLb false FU 4 Unit (mkAs T [39, 23] [.l us, .l bs]) (fun _ => none) 0 tellT = (ln us.length <| bif ilt 20 (us.length : Nat) then some () else ln bs.length <| bif ilt 3000 (bs.length : Nat) then some () else lbP bs (lbL us)) := by kernel_rfl
theorem run_b2 (us : List V) : runFC Tryz.prog T K34 LoLb false FU 4 Unit (mkAs T [39, 23] [.l us, .n]) (fun _ => none) 0 tellT = (ln us.length <| bif ilt 20 (us.length : Nat) then some () else lbL us) := by kernel_rfl
theorem run_b3 (bs : List V) : runFC Tryz.prog T K34 LoLb false FU 4 Unit (mkAs T [39, 23] [.n, .l bs]) (fun _ => none) 0 tellT = (ln bs.length <| bif ilt 3000 (bs.length : Nat) then some () else lbP bs lbN) := by kernel_rfl
theorem run_b4  : runFC Tryz.prog T K34 LoLb false FU 4 Unit (mkAs T [39, 23] [.n, .n]) (fun _ => none) 0 tellT = lbN := by kernel_rfl
theorem lim_or {n m : Nat} {k : Option Unit} (h : n ≤ 9223372036854775807) (hk : n ≤ m → k = some ()) : (ln n <| bif ilt (m : Nat) (n : Nat) then some () else k) = some () := by
  rw [ln_in h, ilt_nat]
  by_cases hc : m < n
  · simp [hc]
  · simp only [hc, decide_false, cond_false]; exact hk (by omega)
theorem law_run (xs : List V) (hd : D.hasL [DUndo, .slice (.int .u8)] xs) (hm : D.smL [DUndo, .slice (.int .u8)] xs) : runFC Tryz.prog T (runAC Tryz.prog T tab34 false FU 4) LoLb false FU 4 Unit (mkAs T [39, 23] xs) (fun _ => none) 0 tellT = some () := by
  obtain ⟨a, b, rfl, ha, hb⟩ := hasL2 hd
  obtain ⟨m1, m2, _⟩ := hm
  have c0 := lbN_law
  rcases ha with rfl | ⟨us, rfl, hus⟩ <;> rcases hb with rfl | ⟨bs, rfl, hbs⟩
  · exact run_b4.trans c0
  · obtain ⟨ns, rfl, hn⟩ := u8s hbs
    have m3 : (ns.map nv).length ≤ 9223372036854775807 := m2.1
    refine (run_b3 _).trans (lim_or m3 fun h3 => ?_)
    rw [lbP_law hn (by simpa using h3)]; exact c0
  · have m2' : us.length ≤ 9223372036854775807 := m1.1
    exact (run_b2 _).trans (lim_or m2' fun h2 => lbL_law hus m1.2 h2)
  · obtain ⟨ns, rfl, hn⟩ := u8s hbs
    have m2' : us.length ≤ 9223372036854775807 := m1.1
    have m3 : (ns.map nv).length ≤ 9223372036854775807 := m2.1
    refine (run_b1 _ _).trans (lim_or m2' fun h2 => lim_or m3 fun h3 => ?_)
    rw [lbP_law hn (by simpa using h3)]; exact lbL_law hus m1.2 h2
theorem law_nat : (runFC Tryz.prog T (runAC Tryz.prog T tab34 false FU 4) LoLb false FU 4).nat := runFC_nat (runAC_nat tab34_ok 4) LoLb_ok.nat
theorem law_ok : SymOK Tryz.prog T 4 (runFC Tryz.prog T (runAC Tryz.prog T tab34 false FU 4) LoLb false FU 4).dir := runFC_ok follows T_ok (runAC_nat tab34_ok 4) (runAC_ok follows T_ok tab34_ok 4) LoLb_ok.nat LoLb_ok.ok
end Go.Proofs.YtkaobamodajniaaGreat
end
